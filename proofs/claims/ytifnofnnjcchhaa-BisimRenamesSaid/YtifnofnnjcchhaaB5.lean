import Derived.Test.YtifnofnnjcchhaaB4
import Derived.Test.YtifnofnnjcchhaaB2
import Derived.Test.YtifnofnnjcchhaaB1
import Derived.Test.YtifnofnnjcchhaaBP
set_option linter.unusedVariables false
set_option linter.unusedSimpArgs false
namespace Go.Proofs.Ytifnofnnjcchhaa
open Go.Sx Go.RowKit Go.Sx.Pt
set_option maxHeartbeats 400000 in
set_option maxRecDepth 100000 in
theorem s_find (w : World) (u v : Value) (a b : Dfa) (hu : RdD (fun _ => False) w u a) (hv : RdD (fun _ => False) w v b) : CallS Try.prog 13 [u, v] w (fun r o => ∃ pv, r = .tuple #[pv, sv (FindW a b), .bool (FindB a b), .int .i64 (pairE a b)] ∧ IsSl pv ∧ o = [row pv 3 1 (FindP a b).length ((FindP a b).map (Value.int .i64))]) := by
 have hu0 := hu
 have hv0 := hv
 obtain ⟨aF, aN, rfl, haF, haN⟩ := hu
 obtain ⟨bF, bN, rfl, hbF, hbN⟩ := hv
 have haF0 := haF
 have hbF0 := hbF
 have haN0 := haN
 have hbN0 := hbN
 obtain ⟨ra, hra, haNr, haNi⟩ := haN
 obtain ⟨rb, hrb, hbNr, hbNi⟩ := hbN
 unfold RdL at haF hbF
 have m1 := haF.le
 have m2 := hbF.le
 refine spec_of Try.func13 rfl (Nat.le_of_ble_eq_true rfl) ?_
 refine .sr fun _ hK1 => ?_
 refine AK.box_ (E := 25) (cs := [.int .i64 a.L, .int .i64 a.s, aF, aN]) rfl rfl rfl trivial rfl (fun bx2 => ?_)
 refine AK.box_ (E := 25) (cs := [.int .i64 b.L, .int .i64 b.s, bF, bN]) rfl rfl rfl trivial rfl (fun bx3 => ?_)
 refine .as rfl (.as rfl (.as rfl (.as rfl (.nt hK1 ?_))))
 refine .seq fun _ hK2 => ?_
 refine .sr fun _ hK3 => ?_
 refine .v (.loadBoxG ag25 rfl bsp rfl rfl) ?_
 refine .v (.loadBoxG ag25 rfl bsp rfl rfl) ?_
 refine AK.call co35 rfl (fun w hw => s_bvalid w _ _ a b (hu0.at hw) (hv0.at hw)) trivial rfl ?_
 rintro r o ⟨rfl, rfl⟩
 refine .as rfl (.nt hK3 ?_)
 refine .sr fun _ hK4 => ?_
 refine .mv rfl ?_
 refine .v (.neq rfl rfl) ?_
 refine .nt hK4 ?_
 refine AK.condNe rfl (fun hc0 => ?_) (fun hc0 => ?_)
 ·have hE : pairE a b ≠ 0 := by omega
  refine .sr fun _ hK5 => ?_
  refine .mv rfl (.as rfl (.as rfl (.as rfl (.as rfl (.nt hK5 (.ret (.then_ret ?_)))))))
  refine AK.ghost 3 1 ?_
  refine AK.retG [.tmp 4, .tmp 5, .tmp 6, .tmp 7] rfl (.cons (.tmp rfl) (.cons (.tmp rfl) (.cons (.tmp rfl) (.cons (.tmp rfl) (.nil))))) (fun w hw => ⟨_, _, ?_, rfl, Ret.of (hw.pick [2] (by decide) rfl rfl)⟩)
  obtain ⟨e1, e2, e3⟩ := find_bad hE
  rw [e1, e2, e3]
  exact ⟨_, rfl, nilSl, rfl⟩
 ·have hE : pairE a b = 0 := by omega
  obtain ⟨ha, hb, hL⟩ := pairE_zero hE
  refine .skip ?_
  refine AK.then_ (hK2 _ ?_)
  refine .seq fun _ hK6 => ?_
  refine .sr fun _ hK7 => ?_
  refine .v (.loadBoxG ag25 rfl bsp rfl rfl) ?_
  refine .v (.loadBoxG ag25 rfl bsp rfl rfl) ?_
  refine AK.call co36 rfl (fun w hw => s_unite w _ _ a b (hu0.at hw) (hv0.at hw) ha hb hL) trivial rfl ?_
  rintro r o ⟨cv, lst, sm, rfl, scv, rfl, hs1, hs2⟩
  refine .mv rfl ?_
  refine .v (.extract rfl rfl) ?_
  refine .v (.extract rfl rfl) ?_
  refine .as rfl (.as rfl (.nt hK7 ?_))
  refine .sr fun _ hK8 => ?_
  refine .mv rfl (.nt hK8 ?_)
  refine AK.cond rfl (fun hc1 => ?_) (fun hc1 => ?_)
  ·try simp only [bs] at hc1
   refine .sr fun _ hK9 => ?_
   refine .mv rfl (.as rfl (.as rfl (.as rfl (.as rfl (.nt hK9 (.ret (.then_ret ?_)))))))
   refine AK.retG [.tmp 4, .tmp 5, .tmp 6, .tmp 7] rfl (.cons (.tmp rfl) (.cons (.tmp rfl) (.cons (.tmp rfl) (.cons (.tmp rfl) (.nil))))) (fun w hw => ⟨_, _, ?_, rfl, Ret.of (hw.pick [2] (by decide) rfl rfl)⟩)
   obtain ⟨hlng, rfl⟩ := hs1 hc1
   have e1 : FindB a b = true := (find_iff hE).2 hlng
   have e0 : (DifD a b 6).2 = false := (dif6_iff ha hb hL).2 hlng
   rw [(find_ok hE).2, dif_false e0, hE, show FindP a b = leastL a b from if_pos e1, e1]
   exact ⟨cv, rfl, scv, rfl⟩
  ·try simp only [bs] at hc1
   refine .skip ?_
   refine AK.then_ (hK6 _ ?_)
   refine .sr fun _ hK10 => ?_
   refine .v (.loadBoxG ag25 rfl bsp rfl rfl) ?_
   refine .v (.loadBoxG ag25 rfl bsp rfl rfl) ?_
   refine .v (.makeFunc (first := []) (captured := [.tmp 2, .tmp 3]) rfl rfl) ?_
   refine AK.call co37 rfl (fun w hw => (by have h := s_search w _ _ a b (hu0.at hw) (hv0.at hw) ha hb hL 38 [] [.pointer (some ⟨bx2, 0, none⟩), .pointer (some ⟨bx3, 0, none⟩)] (finP a b 6) co38 (fun w' hfr p hp => by obtain ⟨i1, i2⟩ := mem_univ2.1 hp; rw [finP6]; exact s_find1 w' p.1 p.2 bx2 bx3 a b aF aN bF bN ((BxA.own 0 hw rfl).fr hfr) ((BxA.own 1 hw rfl).fr hfr) ((haF0.at hw).fr hfr) ((hbF0.at hw).fr hfr) i1 i2); exact h)) trivial rfl ?_
   rintro r o ⟨rfl, rfl⟩
   refine .mv rfl ?_
   refine .v (.extract rfl rfl) ?_
   refine .v (.extract rfl rfl) ?_
   refine .as rfl (.as rfl (.nt hK10 ?_))
   refine .sr fun _ hK11 => ?_
   refine .mv rfl (.as rfl (.as rfl (.as rfl (.as rfl (.nt hK11 (.ret ?_))))))
   refine AK.ghost 3 1 ?_
   refine AK.retG [.tmp 4, .tmp 5, .tmp 6, .tmp 7] rfl (.cons (.tmp rfl) (.cons (.tmp rfl) (.cons (.tmp rfl) (.cons (.tmp rfl) (.nil))))) (fun w hw => ⟨_, _, ?_, rfl, Ret.of (hw.pick [3] (by decide) rfl rfl)⟩)
   obtain ⟨hnl, _⟩ := hs2 hc1
   have e1 : FindB a b = false := by
    cases e : FindB a b with
    | false => rfl
    | true => exact absurd ((find_iff hE).1 e) hnl
   rw [(find_ok hE).2, hE, show FindP a b = [] from if_neg (by rw [e1]; decide), e1]
   exact ⟨_, rfl, nilSl, rfl⟩

set_option maxHeartbeats 400000 in
set_option maxRecDepth 100000 in
theorem s_incl (w : World) (u v : Value) (a b : Dfa) (hu : RdD (fun _ => False) w u a) (hv : RdD (fun _ => False) w v b) : CallS Try.prog 19 [u, v] w (fun r o => r = .tuple #[sv (InclW a b), .bool (InclB a b), .int .i64 (InclE a b)] ∧ o = []) := by
 have hu0 := hu
 have hv0 := hv
 obtain ⟨aF, aN, rfl, haF, haN⟩ := hu
 obtain ⟨bF, bN, rfl, hbF, hbN⟩ := hv
 have haF0 := haF
 have hbF0 := hbF
 have haN0 := haN
 have hbN0 := hbN
 obtain ⟨ra, hra, haNr, haNi⟩ := haN
 obtain ⟨rb, hrb, hbNr, hbNi⟩ := hbN
 unfold RdL at haF hbF
 have m1 := haF.le
 have m2 := hbF.le
 refine spec_of Try.func19 rfl (Nat.le_of_ble_eq_true rfl) ?_
 refine .sr fun _ hK1 => ?_
 refine AK.box_ (E := 25) (cs := [.int .i64 a.L, .int .i64 a.s, aF, aN]) rfl rfl rfl trivial rfl (fun bx2 => ?_)
 refine AK.box_ (E := 25) (cs := [.int .i64 b.L, .int .i64 b.s, bF, bN]) rfl rfl rfl trivial rfl (fun bx3 => ?_)
 refine .as rfl (.as rfl (.as rfl (.nt hK1 ?_)))
 refine .seq fun _ hK2 => ?_
 refine .sr fun _ hK3 => ?_
 refine .v (.loadBoxG ag25 rfl bsp rfl rfl) ?_
 refine .v (.loadBoxG ag25 rfl bsp rfl rfl) ?_
 refine AK.call co35 rfl (fun w hw => s_bvalid w _ _ a b (hu0.at hw) (hv0.at hw)) trivial rfl ?_
 rintro r o ⟨rfl, rfl⟩
 refine .as rfl (.nt hK3 ?_)
 refine .sr fun _ hK4 => ?_
 refine .mv rfl ?_
 refine .v (.neq rfl rfl) ?_
 refine .nt hK4 ?_
 refine AK.condNe rfl (fun hc0 => ?_) (fun hc0 => ?_)
 ·have hE : pairE a b ≠ 0 := by omega
  refine .sr fun _ hK5 => ?_
  refine .mv rfl (.as rfl (.as rfl (.as rfl (.nt hK5 (.ret (.then_ret ?_))))))
  refine AK.retG [.tmp 4, .tmp 5, .tmp 6] rfl (.cons (.tmp rfl) (.cons (.tmp rfl) (.cons (.tmp rfl) (.nil)))) (fun w hw => ⟨_, _, ?_, rfl, Ret.of (hw.pick [] (by decide) rfl rfl)⟩)
  have e1 : InclE a b = pairE a b := if_pos hE
  unfold InclW InclB
  rw [e1, if_neg hE, decide_eq_false hE]
  exact ⟨rfl, rfl⟩
 ·have hE : pairE a b = 0 := by omega
  obtain ⟨ha, hb, hL⟩ := pairE_zero hE
  refine .skip ?_
  refine AK.then_ (hK2 _ ?_)
  refine .sr fun _ hK6 => ?_
  refine .v (.loadBoxG ag25 rfl bsp rfl rfl) ?_
  refine .v (.loadBoxG ag25 rfl bsp rfl rfl) ?_
  refine .v (.makeFunc (first := []) (captured := [.tmp 2, .tmp 3]) rfl rfl) ?_
  refine AK.call co37 rfl (fun w hw => (by have h := s_search w _ _ a b (hu0.at hw) (hv0.at hw) ha hb hL 44 [] [.pointer (some ⟨bx2, 0, none⟩), .pointer (some ⟨bx3, 0, none⟩)] (finP a b 4) co44 (fun w' hfr p hp => by obtain ⟨i1, i2⟩ := mem_univ2.1 hp; rw [finP4]; exact s_incl1 w' p.1 p.2 bx2 bx3 a b aF aN bF bN ((BxA.own 0 hw rfl).fr hfr) ((BxA.own 1 hw rfl).fr hfr) ((haF0.at hw).fr hfr) ((hbF0.at hw).fr hfr) i1 i2); exact h)) trivial rfl ?_
  rintro r o ⟨rfl, rfl⟩
  refine .mv rfl ?_
  refine .v (.extract rfl rfl) ?_
  refine .v (.extract rfl rfl) ?_
  refine .as rfl (.as rfl (.nt hK6 ?_))
  refine .seq fun _ hK7 => ?_
  refine .block ?_
  refine .sr fun _ hK8 => ?_
  refine .mv rfl ?_
  refine .v (.not rfl) ?_
  refine .as rfl (.nt hK8 ?_)
  refine AK.condB rfl (fun hc1 => ?_) (fun hc1 => ?_)
  ·refine .sr fun _ hK9 => ?_
   refine .as rfl (.as rfl (.as rfl (.nt hK9 (.ret (.block_ret (.then_ret ?_))))))
   refine AK.retG [.tmp 4, .tmp 5, .tmp 6] rfl (.cons (.tmp rfl) (.cons (.tmp rfl) (.cons (.tmp rfl) (.nil)))) (fun w hw => ⟨_, _, ?_, rfl, Ret.of (hw.pick [] (by decide) rfl rfl)⟩)
   unfold InclW InclB InclE
   rw [show pairE a b = 0 from hE]
   have e0 : (DifD a b 4).2 = false := by simpa [DifD] using hc1
   rw [e0, dif_false e0]
   exact ⟨rfl, rfl⟩
  ·refine .sr fun _ hK10 => ?_
   refine .mv rfl ?_
   refine .v (.lenS un9 rfl) ?_
   refine .v (.gtr rfl rfl) ?_
   refine .as rfl (.nt hK10 ?_)
   refine AK.condD rfl (fun hc2 => ?_) (fun hc2 => ?_)
   ·refine .sr fun _ hK11 => ?_
    refine .as rfl (.as rfl (.as rfl (.nt hK11 (.ret (.block_ret (.then_ret ?_))))))
    refine AK.retG [.tmp 4, .tmp 5, .tmp 6] rfl (.cons (.tmp rfl) (.cons (.tmp rfl) (.cons (.tmp rfl) (.nil)))) (fun w hw => ⟨_, _, ?_, rfl, Ret.of (hw.pick [] (by decide) rfl rfl)⟩)
    have e0 : (DifD a b 4).2 = true := by simpa [DifD] using hc1
    have e1 : 2048 < (DifD a b 4).1.length := by have h := hc2; unfold DifD; omega
    have eE : InclE a b = 3 := by unfold InclE; rw [if_neg (by omega), if_pos ⟨e0, e1⟩]
    unfold InclW InclB
    rw [eE, hE, e0]
    exact ⟨rfl, rfl⟩
   ·refine .skip (.block_normal ?_)
    refine AK.then_ (hK7 _ ?_)
    refine .sr fun _ hK12 => ?_
    refine .mv rfl (.as rfl (.as rfl (.as rfl (.nt hK12 (.ret ?_)))))
    refine AK.retG [.tmp 4, .tmp 5, .tmp 6] rfl (.cons (.tmp rfl) (.cons (.tmp rfl) (.cons (.tmp rfl) (.nil)))) (fun w hw => ⟨_, _, ?_, rfl, Ret.of (hw.pick [] (by decide) rfl rfl)⟩)
    have e0 : (DifD a b 4).2 = true := by simpa [DifD] using hc1
    have e1 : ¬ 2048 < (DifD a b 4).1.length := by have h := hc2; unfold DifD; omega
    have eE : InclE a b = 0 := by unfold InclE; rw [if_neg (by omega), if_neg (fun h => e1 h.2)]
    unfold InclW InclB
    rw [eE, hE, e0]
    exact ⟨rfl, rfl⟩

def oddB : Dfa := ⟨2, 0, [false, true], [[1, 0], [0, 1]]⟩
theorem odd_find : pairE oddB oddB = 0 ∧ FindB oddB oddB = true ∧ FindW oddB oddB = [] ∧ FindP oddB oddB = [0, 1, 0, 1] := by decide +kernel
set_option maxHeartbeats 400000 in
set_option maxRecDepth 100000 in
theorem s_odd (w : World) : CallS Try.prog 39 [] w (fun r o => DfaR 4 3 26 r o oddB) := by
 refine spec_of Try.func39 rfl (Nat.le_of_ble_eq_true rfl) ?_
 refine .sr fun _ hK1 => ?_
 refine AK.alloc el25 rfl rfl trivial rfl (fun bx0 => ?_)
 refine .nt hK1 ?_
 refine .sr fun _ hK2 => ?_
 refine AK.lit (xs := [.const (.bool false), .const (.bool true)]) sl22 el4 rfl rfl rfl (by simp [Value.cells]) (by decide) (by decide) trivial rfl (fun vf => ?_)
 refine AK.shape 1 rfl (fun sf => ?_)
 refine AK.lit (xs := [.const (.int .i64 1), .const (.int .i64 0)]) sl26 el3 rfl rfl rfl (by simp [Value.cells]) (by decide) (by decide) trivial rfl (fun r1 => ?_)
 refine AK.shape 2 rfl (fun s1 => ?_)
 refine AK.lit (xs := [.const (.int .i64 0), .const (.int .i64 1)]) sl26 el3 rfl rfl rfl (by simp [Value.cells]) (by decide) (by decide) trivial rfl (fun r2 => ?_)
 refine AK.shape 3 rfl (fun s2 => ?_)
 refine AK.lit (xs := [.tmp 2, .tmp 3]) sl23 el26 rfl rfl rfl (by intro a ha; simp at ha; rcases ha with rfl | rfl; (rw [s1.cells]; rfl); (rw [s2.cells]; rfl)) (by decide) (by decide) trivial rfl (fun vn => ?_)
 refine AK.shape 4 rfl (fun sn => ?_)
 refine .v (.build (parts := [(0, .const (.int .i64 2)), (2, .tmp 1), (3, .tmp 4)]) (cs := #[.int .i64 2, .int .i64 0, vf, vn]) rfl (by obtain ⟨_, _, _, rfl⟩ := sf; obtain ⟨_, _, _, rfl⟩ := sn; kernel_rfl)) ?_
 refine AK.storeBox 0 (us := [.int .i64 2, .int .i64 0, vf, vn]) (cs' := [.int .i64 2, .int .i64 0, vf, vn]) rfl sz25 rfl rfl rfl rfl oneP (Nat.le_of_ble_eq_true rfl) rfl trivial ?_
 refine .nt hK2 (.ret ?_)
 refine AK.own' (dfaO 4 3 26 vf vn [r1, r2] oddB ++ [box bx0 25 4 [.int .i64 2, .int .i64 0, vf, vn]]) (fun w hw => by have e : [r1, r2].flatMap (·.cells.toList) = [r1, r2] := (by simp [s1.cells, s2.cells]); rw [e] at hw; have h2 := hw.pick [1, 4, 0, 2, 3] (by decide) rfl rfl; have h3 := HW.pick (HW.unflat (l := [_, _]) (own := [_, _, _]) (HW.pick h2 [3, 4, 0, 1, 2] (by decide) rfl rfl)) [1, 2, 0, 3] (by decide) rfl rfl; exact h3) ?_
 refine AK.retG [.cell 0 25] rfl (.cons (.cell ag25 rfl bsp rfl rfl) (.nil)) (fun w hw => ⟨_, _, ?_, rfl, Ret.of (hw.pick [0, 1, 2] (by decide) rfl rfl)⟩)
 exact ⟨vf, vn, [r1, r2], rfl, rfl, sf, sn, rfl⟩

set_option maxHeartbeats 400000 in
set_option maxRecDepth 100000 in
theorem s_awake (w : World) : CallS Try.prog 15 [] w (fun r o => r = .bool true ∧ o = []) := by
 obtain ⟨e1, e2, e3, e4⟩ := odd_find
 refine spec_of Try.func15 rfl (Nat.le_of_ble_eq_true rfl) ?_
 refine .sr fun _ hK1 => ?_
 refine .as rfl (.nt hK1 ?_)
 refine .sr fun _ hK2 => ?_
 refine AK.call co39 rfl (fun w hw => s_odd w) trivial rfl ?_
 rintro r o ⟨vF, vN, rs, rfl, hrl, sF, sN, rfl⟩
 refine AK.call co39 rfl (fun w hw => s_odd w) trivial rfl ?_
 rintro r o ⟨vF2, vN2, rs2, rfl, hrl2, sF2, sN2, rfl⟩
 refine AK.call co13 rfl (fun w hw => s_find w _ _ oddB oddB (RdD.own 0 hw hrl rfl rfl rfl) (RdD.own 3 hw hrl2 rfl rfl rfl)) trivial rfl ?_
 rintro r o ⟨pv, rfl, spv, rfl⟩
 rw [e1, e2, e3, e4]
 refine .mv rfl ?_
 refine .v (.extract rfl rfl) ?_
 refine .v (.extract rfl rfl) ?_
 refine .v (.extract rfl rfl) ?_
 refine .v (.extract rfl rfl) ?_
 refine .as rfl (.as rfl (.as rfl (.as rfl (.nt hK2 ?_))))
 refine .sr fun _ hK3 => ?_
 refine .mv rfl ?_
 refine .v (.eql rfl rfl) ?_
 refine .mv rfl ?_
 refine AK.knownT (g := 15) rfl (rfl) (fun hg_2_2 => ?_)
 refine AK.val _ (Yl.move rfl) ⟨_, rfl, congrArg (fun b => some (Value.bool b)) hg_2_2⟩ rfl ?_
 refine .v (.pickT rfl (hg_2_2) rfl) ?_
 refine .mv rfl ?_
 refine AK.knownT (g := 18) rfl (rfl) (fun hg_2_5 => ?_)
 refine AK.val _ (Yl.move rfl) ⟨_, rfl, congrArg (fun b => some (Value.bool b)) hg_2_5⟩ rfl ?_
 refine AK.val _ (Yl.eqlS un9 rfl rfl) ⟨_, rfl, congrArg (fun b => some (Value.bool b)) hg_2_5⟩ rfl ?_
 refine .v (.pickT rfl (hg_2_5) rfl) ?_
 refine .mv rfl ?_
 refine AK.knownT (g := 22) rfl (rfl) (fun hg_2_9 => ?_)
 refine AK.val _ (Yl.move rfl) ⟨_, rfl, congrArg (fun b => some (Value.bool b)) hg_2_9⟩ rfl ?_
 refine AK.lit (xs := [.const (.int .i64 0), .const (.int .i64 1), .const (.int .i64 0), .const (.int .i64 1)]) sl26 el3 rfl rfl rfl (by simp [Value.cells]) (by decide) (by decide) ⟨_, rfl, congrArg (fun b => some (Value.bool b)) hg_2_9⟩ rfl (fun lv => ?_)
 refine AK.call co17 rfl (fun w hw => s_same w pv lv [0, 1, 0, 1] [0, 1, 0, 1] (RdL.own 6 hw rfl) (RdL.own 7 hw rfl) (by decide)) ⟨_, rfl, congrArg (fun b => some (Value.bool b)) hg_2_9⟩ rfl ?_
 rintro r o ⟨rfl, rfl⟩
 refine .v (.pickT rfl (hg_2_9) rfl) ?_
 refine .as rfl (.nt hK3 (.ret ?_))
 refine AK.ret1 rfl rfl (fun w hw => ⟨_, _, ?_, rfl, Ret.of (hw.pick [] (by decide) rfl rfl)⟩)
 exact ⟨rfl, rfl⟩

set_option maxHeartbeats 400000 in
set_option maxRecDepth 100000 in
theorem s_both (w : World) (u v : Value) (a b : Dfa) (hu : RdD (fun _ => False) w u a) (hv : RdD (fun _ => False) w v b) (m : Int) : CallS Try.prog 20 [u, v, .int .i64 m] w (fun r o => r = .bool (decide ((a.fin.length : Int) ≤ m ∧ (b.fin.length : Int) ≤ m ∧ pairE a b = 0)) ∧ o = []) := by
 have hu0 := hu
 have hv0 := hv
 obtain ⟨aF, aN, rfl, haF, haN⟩ := hu
 obtain ⟨bF, bN, rfl, hbF, hbN⟩ := hv
 have haF0 := haF
 have hbF0 := hbF
 have haN0 := haN
 have hbN0 := hbN
 obtain ⟨ra, hra, haNr, haNi⟩ := haN
 obtain ⟨rb, hrb, hbNr, hbNi⟩ := hbN
 unfold RdL at haF hbF
 have m1 := haF.le
 have m2 := hbF.le
 refine spec_of Try.func20 rfl (Nat.le_of_ble_eq_true rfl) ?_
 refine .sr fun _ hK1 => ?_
 refine AK.box_ (E := 25) (cs := [.int .i64 a.L, .int .i64 a.s, aF, aN]) rfl rfl rfl trivial rfl (fun bx3 => ?_)
 refine AK.box_ (E := 25) (cs := [.int .i64 b.L, .int .i64 b.s, bF, bN]) rfl rfl rfl trivial rfl (fun bx4 => ?_)
 refine .as rfl (.nt hK1 ?_)
 refine .sr fun _ hK2 => ?_
 refine .v (.fieldAddr fd25_2 rfl) ?_
 refine .v (.loadBox on22 rfl bsp rfl) ?_
 refine .v (.lenR sl22 rfl rdp) ?_
 refine .mv rfl ?_
 refine .v (.leq rfl rfl) ?_
 refine .mv rfl ?_
 refine AK.splitB (g := 12) rfl (fun hg_1_5 => ?_) (fun hg_1_5 => ?_)
 ·have hg_1_5' := hg_1_5
  try simp only [bs] at hg_1_5'
  refine AK.val _ (Yl.fieldAddr fd25_2 rfl) ⟨_, rfl, congrArg (fun b => some (Value.bool b)) hg_1_5⟩ rfl ?_
  refine AK.val _ (Yl.loadBox on22 rfl bsp rfl) ⟨_, rfl, congrArg (fun b => some (Value.bool b)) hg_1_5⟩ rfl ?_
  refine AK.val _ (Yl.lenR sl22 rfl rdp) ⟨_, rfl, congrArg (fun b => some (Value.bool b)) hg_1_5⟩ rfl ?_
  refine AK.val _ (Yl.move rfl) ⟨_, rfl, congrArg (fun b => some (Value.bool b)) hg_1_5⟩ rfl ?_
  refine AK.val _ (Yl.leq rfl rfl) ⟨_, rfl, congrArg (fun b => some (Value.bool b)) hg_1_5⟩ rfl ?_
  refine .v (.pickT rfl (hg_1_5) rfl) ?_
  refine .mv rfl ?_
  refine AK.splitB (g := 19) rfl (fun hg_1_12 => ?_) (fun hg_1_12 => ?_)
  ·have hg_1_12' := hg_1_12
   try simp only [bs] at hg_1_12'
   refine AK.val _ (Yl.loadBoxG ag25 rfl bsp rfl rfl) ⟨_, rfl, congrArg (fun b => some (Value.bool b)) hg_1_12⟩ rfl ?_
   refine AK.val _ (Yl.loadBoxG ag25 rfl bsp rfl rfl) ⟨_, rfl, congrArg (fun b => some (Value.bool b)) hg_1_12⟩ rfl ?_
   refine AK.call co14 rfl (fun w hw => s_refpair w _ _ a b (hu0.at hw) (hv0.at hw)) ⟨_, rfl, congrArg (fun b => some (Value.bool b)) hg_1_12⟩ rfl ?_
   rintro r o ⟨rfl, rfl⟩
   refine AK.val _ (Yl.eql rfl rfl) ⟨_, rfl, congrArg (fun b => some (Value.bool b)) hg_1_12⟩ rfl ?_
   refine .v (.pickT rfl (hg_1_12) rfl) ?_
   refine .as rfl (.nt hK2 (.ret ?_))
   refine AK.ret1 rfl rfl (fun w hw => ⟨_, _, ?_, rfl, Ret.of (hw.pick [] (by decide) rfl rfl)⟩)
   refine ⟨congrArg Value.bool ?_, rfl⟩
   first | exact decide_eq_decide.2 ⟨fun h => ⟨by omega, by omega, h⟩, fun h => h.2.2⟩ | (symm; rw [decide_eq_false_iff_not]; omega)
  ·have hg_1_12' := hg_1_12
   try simp only [bs] at hg_1_12'
   refine AK.pass rfl rfl (hg_1_12) rfl ?_
   refine AK.pass rfl rfl (hg_1_12) rfl ?_
   refine AK.pass rfl rfl (hg_1_12) rfl ?_
   refine AK.pass rfl rfl (hg_1_12) rfl ?_
   refine .v (.pickF rfl (hg_1_12) rfl) ?_
   refine .as rfl (.nt hK2 (.ret ?_))
   refine AK.ret1 rfl rfl (fun w hw => ⟨_, _, ?_, rfl, Ret.of (hw.pick [] (by decide) rfl rfl)⟩)
   refine ⟨congrArg Value.bool ?_, rfl⟩
   first | exact decide_eq_decide.2 ⟨fun h => ⟨by omega, by omega, h⟩, fun h => h.2.2⟩ | (symm; rw [decide_eq_false_iff_not]; omega)
 ·have hg_1_5' := hg_1_5
  try simp only [bs] at hg_1_5'
  refine AK.pass rfl rfl (hg_1_5) rfl ?_
  refine AK.pass rfl rfl (hg_1_5) rfl ?_
  refine AK.pass rfl rfl (hg_1_5) rfl ?_
  refine AK.pass rfl rfl (hg_1_5) rfl ?_
  refine AK.pass rfl rfl (hg_1_5) rfl ?_
  refine .v (.pickF rfl (hg_1_5) rfl) ?_
  refine .mv rfl ?_
  refine AK.pass rfl rfl rfl rfl ?_
  refine AK.pass rfl rfl rfl rfl ?_
  refine AK.pass rfl rfl rfl rfl ?_
  refine AK.pass rfl rfl rfl rfl ?_
  refine .v (.pickF rfl (rfl) rfl) ?_
  refine .as rfl (.nt hK2 (.ret ?_))
  refine AK.ret1 rfl rfl (fun w hw => ⟨_, _, ?_, rfl, Ret.of (hw.pick [] (by decide) rfl rfl)⟩)
  refine ⟨congrArg Value.bool ?_, rfl⟩
  first | exact decide_eq_decide.2 ⟨fun h => ⟨by omega, by omega, h⟩, fun h => h.2.2⟩ | (symm; rw [decide_eq_false_iff_not]; omega)

end Go.Proofs.Ytifnofnnjcchhaa
