import Derived.Test.YtifnofnnjcchhaaB5
import Derived.Test.YtifnofnnjcchhaaB3
import Derived.Test.YtifnofnnjcchhaaE5
set_option linter.unusedVariables false
set_option linter.unusedSimpArgs false
namespace Go.Proofs.Ytifnofnnjcchhaa
open Go.Sx Go.RowKit Go.Sx.Pt
theorem incl_facts {a b : Dfa} : (pairE a b ≠ 0 → InclE a b = pairE a b ∧ InclW a b = [] ∧ InclB a b = false) ∧
    (pairE a b = 0 → a.fin.length ≤ 16 → b.fin.length ≤ 16 → InclE a b = 0 ∧ InclW a b = (DifD a b 4).1 ∧ InclB a b = !(DifD a b 4).2) := by
  refine ⟨fun h => ?_, fun h h1 h2 => ?_⟩
  · have e1 : InclE a b = pairE a b := if_pos h
    unfold InclW InclB
    rw [e1, if_neg h, decide_eq_false h]
    exact ⟨rfl, rfl, rfl⟩
  · have hl := dif_len (a := a) (b := b) 4
    have hm : a.fin.length * b.fin.length ≤ 16 * 16 := Nat.mul_le_mul h1 h2
    have e1 : InclE a b = 0 := by
      unfold InclE
      rw [if_neg (by omega), if_neg (by omega)]
    unfold InclW InclB
    rw [e1, decide_eq_true h]
    exact ⟨rfl, rfl, rfl⟩
theorem incl_iff {a b : Dfa} (h : pairE a b = 0) : InclB a b = true ↔ ∀ l, Okw a l → finQ a (runI a a.s l) = true → finQ b (runI b b.s l) = true := by
  obtain ⟨ha, hb, hL⟩ := pairE_zero h
  unfold InclB
  rw [decide_eq_true h, ← dif4_iff ha hb hL]
  simp
theorem pairE_symm {a b : Dfa} (h : pairE a b = 0) : pairE b a = 0 := by
  obtain ⟨ha, hb, hL⟩ := pairE_zero h
  exact pairE_mk hb ha hL.symm
theorem pairE_trans {a b c : Dfa} (h : pairE a b = 0) (h' : pairE b c = 0) : pairE a c = 0 := by
  obtain ⟨ha, hb, hL⟩ := pairE_zero h
  obtain ⟨_, hc, hL'⟩ := pairE_zero h'
  exact pairE_mk ha hc (hL.trans hL')
theorem pairE_refl {a b : Dfa} (h : pairE a b = 0) : pairE a a = 0 := by
  obtain ⟨ha, _, _⟩ := pairE_zero h
  exact pairE_mk ha ha rfl
theorem incl_order {a b c : Dfa} (h : pairE a b = 0) (h' : pairE b c = 0) : InclB a a = true ∧ (InclB a b = true → InclB b c = true → InclB a c = true) ∧ (InclB a b && InclB b a) = FindB a b := by
  obtain ⟨ha, hb, hL⟩ := pairE_zero h
  obtain ⟨_, hc, hL'⟩ := pairE_zero h'
  refine ⟨(incl_iff (pairE_refl h)).2 fun l _ h1 => h1, fun h1 h2 => ?_, ?_⟩
  · rw [incl_iff h] at h1
    rw [incl_iff h'] at h2
    rw [incl_iff (pairE_trans h h')]
    exact fun l hl hf => h2 l ((okw_L hL).1 hl) (h1 l hl hf)
  · rw [Bool.eq_iff_iff, Bool.and_eq_true, incl_iff h, incl_iff (pairE_symm h), find_iff h]
    constructor
    · rintro ⟨h1, h2⟩ l hl
      rw [Bool.eq_iff_iff]
      exact ⟨h1 l hl, h2 l ((okw_L hL).1 hl)⟩
    · intro hq
      exact ⟨fun l hl hf => by rw [← hq l hl]; exact hf, fun l hl hf => by rw [hq l ((okw_L hL).2 hl)]; exact hf⟩
theorem min_facts {a b : Dfa} (h : pairE a b = 0) : MinV a = minD a ∧ MinV b = minD b ∧ pairE a (minD a) = 0 ∧ FindB a (minD a) = true ∧ FindB a b = decide (minD a = minD b) := by
  obtain ⟨ha, hb, hL⟩ := pairE_zero h
  have hm := min_vd ha
  have hp : pairE a (minD a) = 0 := pairE_mk ha hm rfl
  refine ⟨if_pos ha, if_pos hb, hp, (find_iff hp).2 (fun l hl => (min_lng ha l hl).symm), ?_⟩
  rw [Bool.eq_iff_iff, find_iff h, decide_eq_true_eq]
  constructor
  · exact min_eq ha hb hL
  · intro e l hl
    have h1 := min_lng ha l hl
    have h2 := min_lng hb l ((okw_L hL).1 hl)
    rw [← e] at h2
    exact h1.symm.trans h2
set_option maxHeartbeats 1000000 in
set_option maxRecDepth 100000 in
theorem l_includes (w : World) (u v : Value) (a b : Dfa) (hu : RdD (fun _ => False) w u a) (hv : RdD (fun _ => False) w v b) : CallS Try.prog 4 [u, v] w (fun r o => r = .bool true ∧ o = []) := by
 have hu0 := hu
 obtain ⟨aF, aN, rfl, haF, haN⟩ := hu
 have haF0 := haF
 unfold RdL at haF
 have ma := haF.le
 have hv0 := hv
 obtain ⟨bF, bN, rfl, hbF, hbN⟩ := hv
 have hbF0 := hbF
 unfold RdL at hbF
 have mb := hbF.le
 refine spec_of Try.func4 rfl (Nat.le_of_ble_eq_true rfl) ?_
 refine .sr fun _ hK1 => ?_
 refine AK.box_ (E := 25) (cs := [.int .i64 a.L, .int .i64 a.s, aF, aN]) rfl rfl rfl trivial rfl (fun bx2 => ?_)
 refine AK.box_ (E := 25) (cs := [.int .i64 b.L, .int .i64 b.s, bF, bN]) rfl rfl rfl trivial rfl (fun bx3 => ?_)
 refine .as rfl (.nt hK1 ?_)
 refine .sr fun _ hK2 => ?_
 refine .v (.loadBoxG ag25 rfl bsp rfl rfl) ?_
 refine .v (.loadBoxG ag25 rfl bsp rfl rfl) ?_
 refine AK.call co19 rfl (fun w hw => s_incl w _ _ a b (hu0.at hw) (hv0.at hw)) trivial rfl ?_
 rintro r o ⟨rfl, rfl⟩
 refine .mv rfl ?_
 refine .v (.extract rfl rfl) ?_
 refine .v (.extract rfl rfl) ?_
 refine .v (.extract rfl rfl) ?_
 refine .as rfl (.as rfl (.as rfl (.nt hK2 ?_)))
 refine .seq fun _ hK3 => ?_
 refine .sr fun _ hK4 => ?_
 refine .v (.loadBoxG ag25 rfl bsp rfl rfl) ?_
 refine .v (.loadBoxG ag25 rfl bsp rfl rfl) ?_
 refine AK.call co14 rfl (fun w hw => s_refpair w _ _ a b (hu0.at hw) (hv0.at hw)) trivial rfl ?_
 rintro r o ⟨rfl, rfl⟩
 refine .as rfl (.nt hK4 ?_)
 refine .sr fun _ hK5 => ?_
 refine .mv rfl ?_
 refine .v (.neq rfl rfl) ?_
 refine .nt hK5 ?_
 refine AK.condNe rfl (fun hc0 => ?_) (fun hc0 => ?_)
 ·have hE : pairE a b ≠ 0 := by omega
  obtain ⟨e1, e2, e3⟩ := (incl_facts (a := a) (b := b)).1 hE
  refine .sr fun _ hK6 => ?_
  refine .mv rfl (.mv rfl ?_)
  refine .v (.eql rfl rfl) ?_
  refine .mv rfl ?_
  refine AK.knownT (g := 26) rfl (decide_eq_true e1) (fun hg_4_3 => ?_)
  refine AK.val _ (Yl.move rfl) ⟨_, rfl, congrArg (fun b => some (Value.bool b)) hg_4_3⟩ rfl ?_
  refine AK.val _ (Yl.eqlS un9 rfl rfl) ⟨_, rfl, congrArg (fun b => some (Value.bool b)) hg_4_3⟩ rfl ?_
  refine .v (.pickT rfl (hg_4_3) rfl) ?_
  refine .mv rfl ?_
  refine AK.knownT (g := 30) rfl (by rw [e2]; rfl) (fun hg_4_7 => ?_)
  refine AK.val _ (Yl.move rfl) ⟨_, rfl, congrArg (fun b => some (Value.bool b)) hg_4_7⟩ rfl ?_
  refine AK.val _ (Yl.not rfl) ⟨_, rfl, congrArg (fun b => some (Value.bool b)) hg_4_7⟩ rfl ?_
  refine .v (.pickT rfl (hg_4_7) rfl) ?_
  refine .mv rfl ?_
  refine AK.knownT (g := 34) rfl (by rw [e3]; rfl) (fun hg_4_11 => ?_)
  refine AK.call co15 rfl (fun w hw => s_awake w) ⟨_, rfl, congrArg (fun b => some (Value.bool b)) hg_4_11⟩ rfl ?_
  rintro r o ⟨rfl, rfl⟩
  refine .v (.pickT rfl (hg_4_11) rfl) ?_
  refine .as rfl (.nt hK6 (.ret (.then_ret ?_)))
  refine AK.ret1 rfl rfl (fun w hw => ⟨_, _, ?_, rfl, Ret.of (hw.pick [] (by decide) rfl rfl)⟩)
  exact ⟨rfl, rfl⟩
 ·have hE : pairE a b = 0 := by omega
  obtain ⟨ha, hb, hL⟩ := pairE_zero hE
  refine .skip ?_
  refine AK.then_ (hK3 _ ?_)
  refine .seq fun _ hK7 => ?_
  refine .sr fun _ hK8 => ?_
  refine .v (.fieldAddr fd25_2 rfl) ?_
  refine .v (.loadBox on22 rfl bsp rfl) ?_
  refine .v (.lenR sl22 rfl rdp) ?_
  refine .v (.gtr rfl rfl) ?_
  refine .mv rfl ?_
  refine AK.splitB (g := 41) rfl (fun hg_5_4 => ?_) (fun hg_5_4 => ?_)
  ·have hg_5_4' := hg_5_4
   try simp only [bs] at hg_5_4'
   refine AK.pass rfl rfl (hg_5_4) rfl ?_
   refine AK.pass rfl rfl (hg_5_4) rfl ?_
   refine AK.pass rfl rfl (hg_5_4) rfl ?_
   refine AK.pass rfl rfl (hg_5_4) rfl ?_
   refine .v (.pickT rfl (hg_5_4) rfl) ?_
   refine .nt hK8 ?_
   refine AK.cond_t rfl (rfl) ?_
   refine .sr fun _ hK9 => ?_
   refine AK.call co15 rfl (fun w hw => s_awake w) trivial rfl ?_
   rintro r o ⟨rfl, rfl⟩
   refine .as rfl (.nt hK9 (.ret (.then_ret ?_)))
   refine AK.ret1 rfl rfl (fun w hw => ⟨_, _, ?_, rfl, Ret.of (hw.pick [] (by decide) rfl rfl)⟩)
   exact ⟨rfl, rfl⟩
  ·have hg_5_4' := hg_5_4
   try simp only [bs] at hg_5_4'
   refine AK.val _ (Yl.fieldAddr fd25_2 rfl) ⟨_, rfl, congrArg (fun b => some (Value.bool b)) hg_5_4⟩ rfl ?_
   refine AK.val _ (Yl.loadBox on22 rfl bsp rfl) ⟨_, rfl, congrArg (fun b => some (Value.bool b)) hg_5_4⟩ rfl ?_
   refine AK.val _ (Yl.lenR sl22 rfl rdp) ⟨_, rfl, congrArg (fun b => some (Value.bool b)) hg_5_4⟩ rfl ?_
   refine AK.val _ (Yl.gtr rfl rfl) ⟨_, rfl, congrArg (fun b => some (Value.bool b)) hg_5_4⟩ rfl ?_
   refine .v (.pickF rfl (hg_5_4) rfl) ?_
   refine .nt hK8 ?_
   refine AK.condD rfl (fun hc1 => ?_) (fun hc1 => ?_)
   ·refine .sr fun _ hK10 => ?_
    refine AK.call co15 rfl (fun w hw => s_awake w) trivial rfl ?_
    rintro r o ⟨rfl, rfl⟩
    refine .as rfl (.nt hK10 (.ret (.then_ret ?_)))
    refine AK.ret1 rfl rfl (fun w hw => ⟨_, _, ?_, rfl, Ret.of (hw.pick [] (by decide) rfl rfl)⟩)
    exact ⟨rfl, rfl⟩
   ·obtain ⟨e1, e2, e3⟩ := (incl_facts (a := a) (b := b)).2 hE (by omega) (by omega)
    refine .skip ?_
    refine AK.then_ (hK7 _ ?_)
    refine .sr fun _ hK11 => ?_
    refine .v (.loadBoxG ag25 rfl bsp rfl rfl) ?_
    refine .v (.loadBoxG ag25 rfl bsp rfl rfl) ?_
    refine AK.call co16 rfl (fun w hw => s_refdiff w _ _ a b (hu0.at hw) (hv0.at hw) ha hb hL 4 (by decide)) trivial rfl ?_
    rintro r o ⟨rfl, rfl⟩
    refine .mv rfl ?_
    refine .v (.extract rfl rfl) ?_
    refine .v (.extract rfl rfl) ?_
    refine .as rfl (.as rfl (.nt hK11 ?_))
    refine .sr fun _ hK12 => ?_
    refine .mv rfl ?_
    refine .v (.eql rfl rfl) ?_
    refine .mv rfl ?_
    refine AK.knownT (g := 56) rfl (decide_eq_true e1) (fun hg_8_2 => ?_)
    refine AK.val _ (Yl.move rfl) ⟨_, rfl, congrArg (fun b => some (Value.bool b)) hg_8_2⟩ rfl ?_
    refine AK.val _ (Yl.move rfl) ⟨_, rfl, congrArg (fun b => some (Value.bool b)) hg_8_2⟩ rfl ?_
    refine AK.val _ (Yl.not rfl) ⟨_, rfl, congrArg (fun b => some (Value.bool b)) hg_8_2⟩ rfl ?_
    refine AK.val _ (Yl.eqlB bo4 rfl rfl) ⟨_, rfl, congrArg (fun b => some (Value.bool b)) hg_8_2⟩ rfl ?_
    refine .v (.pickT rfl (hg_8_2) rfl) ?_
    refine .mv rfl ?_
    refine AK.knownT (g := 62) rfl (by rw [e3]; exact beq_self_eq_true _) (fun hg_8_8 => ?_)
    refine AK.val _ (Yl.move rfl) ⟨_, rfl, congrArg (fun b => some (Value.bool b)) hg_8_8⟩ rfl ?_
    refine AK.val _ (Yl.move rfl) ⟨_, rfl, congrArg (fun b => some (Value.bool b)) hg_8_8⟩ rfl ?_
    refine AK.val _ (Yl.eqlS un9 rfl rfl) ⟨_, rfl, congrArg (fun b => some (Value.bool b)) hg_8_8⟩ rfl ?_
    refine .v (.pickT rfl (hg_8_8) rfl) ?_
    refine .mv rfl ?_
    refine AK.knownT (g := 67) rfl (decide_eq_true e2) (fun hg_8_13 => ?_)
    refine AK.call co15 rfl (fun w hw => s_awake w) ⟨_, rfl, congrArg (fun b => some (Value.bool b)) hg_8_13⟩ rfl ?_
    rintro r o ⟨rfl, rfl⟩
    refine .v (.pickT rfl (hg_8_13) rfl) ?_
    refine .as rfl (.nt hK12 (.ret ?_))
    refine AK.ret1 rfl rfl (fun w hw => ⟨_, _, ?_, rfl, Ret.of (hw.pick [] (by decide) rfl rfl)⟩)
    exact ⟨rfl, rfl⟩

set_option maxHeartbeats 2000000 in
set_option maxRecDepth 100000 in
theorem l_orders (w : World) (u v t : Value) (a b c : Dfa) (hu : RdD (fun _ => False) w u a) (hv : RdD (fun _ => False) w v b) (ht : RdD (fun _ => False) w t c) : CallS Try.prog 5 [u, v, t] w (fun r o => r = .bool true ∧ o = []) := by
 have hu0 := hu
 obtain ⟨aF, aN, rfl, haF, haN⟩ := hu
 have haF0 := haF
 unfold RdL at haF
 have ma := haF.le
 have hv0 := hv
 obtain ⟨bF, bN, rfl, hbF, hbN⟩ := hv
 have hbF0 := hbF
 unfold RdL at hbF
 have mb := hbF.le
 have ht0 := ht
 obtain ⟨cF, cN, rfl, hcF, hcN⟩ := ht
 have hcF0 := hcF
 unfold RdL at hcF
 have mc := hcF.le
 refine spec_of Try.func5 rfl (Nat.le_of_ble_eq_true rfl) ?_
 refine .sr fun _ hK1 => ?_
 refine AK.box_ (E := 25) (cs := [.int .i64 a.L, .int .i64 a.s, aF, aN]) rfl rfl rfl trivial rfl (fun bx3 => ?_)
 refine AK.box_ (E := 25) (cs := [.int .i64 b.L, .int .i64 b.s, bF, bN]) rfl rfl rfl trivial rfl (fun bx4 => ?_)
 refine AK.box_ (E := 25) (cs := [.int .i64 c.L, .int .i64 c.s, cF, cN]) rfl rfl rfl trivial rfl (fun bx5 => ?_)
 refine .as rfl (.nt hK1 ?_)
 refine .seq fun _ hK2 => ?_
 refine .sr fun _ hK3 => ?_
 refine .v (.loadBoxG ag25 rfl bsp rfl rfl) ?_
 refine .v (.loadBoxG ag25 rfl bsp rfl rfl) ?_
 refine AK.call co20 rfl (fun w hw => s_both w _ _ a b (hu0.at hw) (hv0.at hw) 10) trivial rfl ?_
 rintro r o ⟨rfl, rfl⟩
 refine .v (.not rfl) ?_
 refine .mv rfl ?_
 refine AK.splitB (g := 30) rfl (fun hg_1_4 => ?_) (fun hg_1_4 => ?_)
 ·have hg_1_4' := hg_1_4
  try simp only [bs] at hg_1_4'
  refine AK.pass rfl rfl (hg_1_4) rfl ?_
  refine AK.pass rfl rfl (hg_1_4) rfl ?_
  refine AK.pass rfl rfl (hg_1_4) rfl ?_
  refine AK.pass rfl rfl (hg_1_4) rfl ?_
  refine .v (.pickT rfl (hg_1_4) rfl) ?_
  refine .nt hK3 ?_
  refine AK.cond_t rfl (rfl) ?_
  refine .sr fun _ hK4 => ?_
  refine AK.call co15 rfl (fun w hw => s_awake w) trivial rfl ?_
  rintro r o ⟨rfl, rfl⟩
  refine .as rfl (.nt hK4 (.ret (.then_ret ?_)))
  refine AK.ret1 rfl rfl (fun w hw => ⟨_, _, ?_, rfl, Ret.of (hw.pick [] (by decide) rfl rfl)⟩)
  exact ⟨rfl, rfl⟩
 ·have hg_1_4' := hg_1_4
  try simp only [bs] at hg_1_4'
  refine AK.val _ (Yl.loadBoxG ag25 rfl bsp rfl rfl) ⟨_, rfl, congrArg (fun b => some (Value.bool b)) hg_1_4⟩ rfl ?_
  refine AK.val _ (Yl.loadBoxG ag25 rfl bsp rfl rfl) ⟨_, rfl, congrArg (fun b => some (Value.bool b)) hg_1_4⟩ rfl ?_
  refine AK.call co20 rfl (fun w hw => s_both w _ _ b c (hv0.at hw) (ht0.at hw) 10) ⟨_, rfl, congrArg (fun b => some (Value.bool b)) hg_1_4⟩ rfl ?_
  rintro r o ⟨rfl, rfl⟩
  refine AK.val _ (Yl.not rfl) ⟨_, rfl, congrArg (fun b => some (Value.bool b)) hg_1_4⟩ rfl ?_
  refine .v (.pickF rfl (hg_1_4) rfl) ?_
  refine .nt hK3 ?_
  refine AK.condB rfl (fun hc0 => ?_) (fun hc0 => ?_)
  ·refine .sr fun _ hK5 => ?_
   refine AK.call co15 rfl (fun w hw => s_awake w) trivial rfl ?_
   rintro r o ⟨rfl, rfl⟩
   refine .as rfl (.nt hK5 (.ret (.then_ret ?_)))
   refine AK.ret1 rfl rfl (fun w hw => ⟨_, _, ?_, rfl, Ret.of (hw.pick [] (by decide) rfl rfl)⟩)
   exact ⟨rfl, rfl⟩
  ·obtain ⟨nla, nlb, hE⟩ : (a.fin.length : Int) ≤ 10 ∧ (b.fin.length : Int) ≤ 10 ∧ pairE a b = 0 := by simpa using hg_1_4'
   obtain ⟨_, nlc, hE'⟩ : (b.fin.length : Int) ≤ 10 ∧ (c.fin.length : Int) ≤ 10 ∧ pairE b c = 0 := by simpa using hc0
   obtain ⟨hAA, hTr, hEq⟩ := incl_order hE hE'
   have x1 := ((incl_facts (a := a) (b := a)).2 (pairE_refl hE) (by omega) (by omega)).1
   have x2 := ((incl_facts (a := a) (b := b)).2 hE (by omega) (by omega)).1
   have x3 := ((incl_facts (a := b) (b := a)).2 (pairE_symm hE) (by omega) (by omega)).1
   have x4 := ((incl_facts (a := b) (b := c)).2 hE' (by omega) (by omega)).1
   have x5 := ((incl_facts (a := a) (b := c)).2 (pairE_trans hE hE') (by omega) (by omega)).1
   refine .skip ?_
   refine AK.then_ (hK2 _ ?_)
   refine .sr fun _ hK6 => ?_
   refine .v (.loadBoxG ag25 rfl bsp rfl rfl) ?_
   refine .v (.loadBoxG ag25 rfl bsp rfl rfl) ?_
   refine AK.call co19 rfl (fun w hw => s_incl w _ _ a a (hu0.at hw) (hu0.at hw)) trivial rfl ?_
   rintro r o ⟨rfl, rfl⟩
   refine .mv rfl ?_
   refine .v (.extract rfl rfl) ?_
   refine .v (.extract rfl rfl) ?_
   refine .v (.extract rfl rfl) ?_
   refine .as rfl (.as rfl (.as rfl (.nt hK6 ?_)))
   refine .sr fun _ hK7 => ?_
   refine .v (.loadBoxG ag25 rfl bsp rfl rfl) ?_
   refine .v (.loadBoxG ag25 rfl bsp rfl rfl) ?_
   refine AK.call co19 rfl (fun w hw => s_incl w _ _ a b (hu0.at hw) (hv0.at hw)) trivial rfl ?_
   rintro r o ⟨rfl, rfl⟩
   refine .mv rfl ?_
   refine .v (.extract rfl rfl) ?_
   refine .v (.extract rfl rfl) ?_
   refine .v (.extract rfl rfl) ?_
   refine .as rfl (.as rfl (.as rfl (.nt hK7 ?_)))
   refine .sr fun _ hK8 => ?_
   refine .v (.loadBoxG ag25 rfl bsp rfl rfl) ?_
   refine .v (.loadBoxG ag25 rfl bsp rfl rfl) ?_
   refine AK.call co19 rfl (fun w hw => s_incl w _ _ b a (hv0.at hw) (hu0.at hw)) trivial rfl ?_
   rintro r o ⟨rfl, rfl⟩
   refine .mv rfl ?_
   refine .v (.extract rfl rfl) ?_
   refine .v (.extract rfl rfl) ?_
   refine .v (.extract rfl rfl) ?_
   refine .as rfl (.as rfl (.as rfl (.nt hK8 ?_)))
   refine .sr fun _ hK9 => ?_
   refine .v (.loadBoxG ag25 rfl bsp rfl rfl) ?_
   refine .v (.loadBoxG ag25 rfl bsp rfl rfl) ?_
   refine AK.call co19 rfl (fun w hw => s_incl w _ _ b c (hv0.at hw) (ht0.at hw)) trivial rfl ?_
   rintro r o ⟨rfl, rfl⟩
   refine .mv rfl ?_
   refine .v (.extract rfl rfl) ?_
   refine .v (.extract rfl rfl) ?_
   refine .v (.extract rfl rfl) ?_
   refine .as rfl (.as rfl (.as rfl (.nt hK9 ?_)))
   refine .sr fun _ hK10 => ?_
   refine .v (.loadBoxG ag25 rfl bsp rfl rfl) ?_
   refine .v (.loadBoxG ag25 rfl bsp rfl rfl) ?_
   refine AK.call co19 rfl (fun w hw => s_incl w _ _ a c (hu0.at hw) (ht0.at hw)) trivial rfl ?_
   rintro r o ⟨rfl, rfl⟩
   refine .mv rfl ?_
   refine .v (.extract rfl rfl) ?_
   refine .v (.extract rfl rfl) ?_
   refine .v (.extract rfl rfl) ?_
   refine .as rfl (.as rfl (.as rfl (.nt hK10 ?_)))
   refine .sr fun _ hK11 => ?_
   refine .v (.loadBoxG ag25 rfl bsp rfl rfl) ?_
   refine .v (.loadBoxG ag25 rfl bsp rfl rfl) ?_
   refine AK.call co13 rfl (fun w hw => s_find w _ _ a b (hu0.at hw) (hv0.at hw)) trivial rfl ?_
   rintro r o ⟨pv, rfl, spv, rfl⟩
   refine .mv rfl ?_
   refine .v (.extract rfl rfl) ?_
   refine .v (.extract rfl rfl) ?_
   refine .v (.extract rfl rfl) ?_
   refine .v (.extract rfl rfl) ?_
   refine .as rfl (.as rfl (.as rfl (.as rfl (.nt hK11 ?_))))
   refine .seq fun _ hK12 => ?_
   refine .sr fun _ hK13 => ?_
   refine .mv rfl ?_
   refine .v (.neq rfl rfl) ?_
   refine .mv rfl ?_
   refine AK.knownF (g := 82) rfl (decide_eq_false (by rw [x1]; decide)) (fun hg_9_2 => ?_)
   refine AK.val _ (Yl.move rfl) ⟨_, rfl, congrArg (fun b => some (Value.bool b)) hg_9_2⟩ rfl ?_
   refine AK.val _ (Yl.neq rfl rfl) ⟨_, rfl, congrArg (fun b => some (Value.bool b)) hg_9_2⟩ rfl ?_
   refine .v (.pickF rfl (hg_9_2) rfl) ?_
   refine .mv rfl ?_
   refine AK.knownF (g := 86) rfl (decide_eq_false (by rw [x2]; decide)) (fun hg_9_6 => ?_)
   refine AK.val _ (Yl.move rfl) ⟨_, rfl, congrArg (fun b => some (Value.bool b)) hg_9_6⟩ rfl ?_
   refine AK.val _ (Yl.neq rfl rfl) ⟨_, rfl, congrArg (fun b => some (Value.bool b)) hg_9_6⟩ rfl ?_
   refine .v (.pickF rfl (hg_9_6) rfl) ?_
   refine .mv rfl ?_
   refine AK.knownF (g := 90) rfl (decide_eq_false (by rw [x3]; decide)) (fun hg_9_10 => ?_)
   refine AK.val _ (Yl.move rfl) ⟨_, rfl, congrArg (fun b => some (Value.bool b)) hg_9_10⟩ rfl ?_
   refine AK.val _ (Yl.neq rfl rfl) ⟨_, rfl, congrArg (fun b => some (Value.bool b)) hg_9_10⟩ rfl ?_
   refine .v (.pickF rfl (hg_9_10) rfl) ?_
   refine .mv rfl ?_
   refine AK.knownF (g := 94) rfl (decide_eq_false (by rw [x4]; decide)) (fun hg_9_14 => ?_)
   refine AK.val _ (Yl.move rfl) ⟨_, rfl, congrArg (fun b => some (Value.bool b)) hg_9_14⟩ rfl ?_
   refine AK.val _ (Yl.neq rfl rfl) ⟨_, rfl, congrArg (fun b => some (Value.bool b)) hg_9_14⟩ rfl ?_
   refine .v (.pickF rfl (hg_9_14) rfl) ?_
   refine .mv rfl ?_
   refine AK.knownF (g := 98) rfl (decide_eq_false (by rw [x5]; decide)) (fun hg_9_18 => ?_)
   refine AK.val _ (Yl.move rfl) ⟨_, rfl, congrArg (fun b => some (Value.bool b)) hg_9_18⟩ rfl ?_
   refine AK.val _ (Yl.neq rfl rfl) ⟨_, rfl, congrArg (fun b => some (Value.bool b)) hg_9_18⟩ rfl ?_
   refine .v (.pickF rfl (hg_9_18) rfl) ?_
   refine .nt hK13 ?_
   refine AK.cond_f rfl (decide_eq_false (by rw [hE]; decide)) ?_
   refine .skip ?_
   refine AK.then_ (hK12 _ ?_)
   refine .sr fun _ hK14 => ?_
   refine .mv rfl (.mv rfl ?_)
   refine AK.knownT (g := 103) rfl (hAA) (fun hg_11_1 => ?_)
   refine AK.val _ (Yl.move rfl) ⟨_, rfl, congrArg (fun b => some (Value.bool b)) hg_11_1⟩ rfl ?_
   refine AK.val _ (Yl.not rfl) ⟨_, rfl, congrArg (fun b => some (Value.bool b)) hg_11_1⟩ rfl ?_
   refine AK.val _ (Yl.move rfl) ⟨_, rfl, congrArg (fun b => some (Value.bool b)) hg_11_1⟩ rfl ?_
   refine AK.splitB (g := 106) rfl (fun hg_11_4 => ?_) (fun hg_11_4 => ?_)
   ·have hg_11_4' := hg_11_4
    try simp only [bs] at hg_11_4'
    refine AK.pass rfl rfl (hg_11_4) rfl ?_
    refine AK.pass rfl rfl (hg_11_4) rfl ?_
    refine AK.val _ (Yl.pickT rfl (hg_11_4) rfl) ⟨_, rfl, congrArg (fun b => some (Value.bool b)) hg_11_1⟩ rfl ?_
    refine AK.val _ (Yl.move rfl) ⟨_, rfl, congrArg (fun b => some (Value.bool b)) hg_11_1⟩ rfl ?_
    refine AK.pass rfl rfl rfl rfl ?_
    refine AK.val _ (Yl.pickT rfl (rfl) rfl) ⟨_, rfl, congrArg (fun b => some (Value.bool b)) hg_11_1⟩ rfl ?_
    refine .v (.pickT rfl (hg_11_1) rfl) ?_
    refine .mv rfl ?_
    refine AK.val _ (Yl.move rfl) ⟨_, rfl, rfl⟩ rfl ?_
    refine AK.val _ (Yl.move rfl) ⟨_, rfl, rfl⟩ rfl ?_
    refine AK.splitB (g := 116) rfl (fun hg_11_14 => ?_) (fun hg_11_14 => ?_)
    ·have hg_11_14' := hg_11_14
     try simp only [bs] at hg_11_14'
     refine AK.val _ (Yl.move rfl) ⟨_, rfl, congrArg (fun b => some (Value.bool b)) hg_11_14⟩ rfl ?_
     refine AK.val _ (Yl.pickT rfl (hg_11_14) rfl) ⟨_, rfl, rfl⟩ rfl ?_
     refine AK.val _ (Yl.move rfl) ⟨_, rfl, rfl⟩ rfl ?_
     refine AK.val _ (Yl.eqlB bo4 rfl rfl) ⟨_, rfl, rfl⟩ rfl ?_
     refine .v (.pickT rfl (rfl) rfl) ?_
     refine .mv rfl ?_
     refine AK.knownT (g := 122) rfl (by rw [← hEq]; simp_all) (fun hg_11_20 => ?_)
     refine AK.call co15 rfl (fun w hw => s_awake w) ⟨_, rfl, congrArg (fun b => some (Value.bool b)) hg_11_20⟩ rfl ?_
     rintro r o ⟨rfl, rfl⟩
     refine .v (.pickT rfl (hg_11_20) rfl) ?_
     refine .as rfl (.nt hK14 (.ret ?_))
     refine AK.ret1 rfl rfl (fun w hw => ⟨_, _, ?_, rfl, Ret.of (hw.pick [] (by decide) rfl rfl)⟩)
     exact ⟨rfl, rfl⟩
    ·have hg_11_14' := hg_11_14
     try simp only [bs] at hg_11_14'
     refine AK.pass rfl rfl (hg_11_14) rfl ?_
     refine AK.val _ (Yl.pickF rfl (hg_11_14) rfl) ⟨_, rfl, rfl⟩ rfl ?_
     refine AK.val _ (Yl.move rfl) ⟨_, rfl, rfl⟩ rfl ?_
     refine AK.val _ (Yl.eqlB bo4 rfl rfl) ⟨_, rfl, rfl⟩ rfl ?_
     refine .v (.pickT rfl (rfl) rfl) ?_
     refine .mv rfl ?_
     refine AK.knownT (g := 122) rfl (by rw [← hEq]; simp_all) (fun hg_11_20 => ?_)
     refine AK.call co15 rfl (fun w hw => s_awake w) ⟨_, rfl, congrArg (fun b => some (Value.bool b)) hg_11_20⟩ rfl ?_
     rintro r o ⟨rfl, rfl⟩
     refine .v (.pickT rfl (hg_11_20) rfl) ?_
     refine .as rfl (.nt hK14 (.ret ?_))
     refine AK.ret1 rfl rfl (fun w hw => ⟨_, _, ?_, rfl, Ret.of (hw.pick [] (by decide) rfl rfl)⟩)
     exact ⟨rfl, rfl⟩
   ·have hg_11_4' := hg_11_4
    try simp only [bs] at hg_11_4'
    refine AK.val _ (Yl.move rfl) ⟨_, rfl, congrArg (fun b => some (Value.bool b)) hg_11_4⟩ rfl ?_
    refine AK.val _ (Yl.not rfl) ⟨_, rfl, congrArg (fun b => some (Value.bool b)) hg_11_4⟩ rfl ?_
    refine AK.val _ (Yl.pickF rfl (hg_11_4) rfl) ⟨_, rfl, congrArg (fun b => some (Value.bool b)) hg_11_1⟩ rfl ?_
    refine AK.val _ (Yl.move rfl) ⟨_, rfl, congrArg (fun b => some (Value.bool b)) hg_11_1⟩ rfl ?_
    refine AK.splitB (g := 110) rfl (fun hg_11_8 => ?_) (fun hg_11_8 => ?_)
    ·have hg_11_8' := hg_11_8
     try simp only [bs] at hg_11_8'
     refine AK.pass rfl rfl (hg_11_8) rfl ?_
     refine AK.val _ (Yl.pickT rfl (hg_11_8) rfl) ⟨_, rfl, congrArg (fun b => some (Value.bool b)) hg_11_1⟩ rfl ?_
     refine .v (.pickT rfl (hg_11_1) rfl) ?_
     refine .mv rfl ?_
     refine AK.val _ (Yl.move rfl) ⟨_, rfl, rfl⟩ rfl ?_
     refine AK.val _ (Yl.move rfl) ⟨_, rfl, rfl⟩ rfl ?_
     refine AK.splitB (g := 116) rfl (fun hg_11_14 => ?_) (fun hg_11_14 => ?_)
     ·have hg_11_14' := hg_11_14
      try simp only [bs] at hg_11_14'
      refine AK.val _ (Yl.move rfl) ⟨_, rfl, congrArg (fun b => some (Value.bool b)) hg_11_14⟩ rfl ?_
      refine AK.val _ (Yl.pickT rfl (hg_11_14) rfl) ⟨_, rfl, rfl⟩ rfl ?_
      refine AK.val _ (Yl.move rfl) ⟨_, rfl, rfl⟩ rfl ?_
      refine AK.val _ (Yl.eqlB bo4 rfl rfl) ⟨_, rfl, rfl⟩ rfl ?_
      refine .v (.pickT rfl (rfl) rfl) ?_
      refine .mv rfl ?_
      refine AK.knownT (g := 122) rfl (by rw [← hEq]; simp_all) (fun hg_11_20 => ?_)
      refine AK.call co15 rfl (fun w hw => s_awake w) ⟨_, rfl, congrArg (fun b => some (Value.bool b)) hg_11_20⟩ rfl ?_
      rintro r o ⟨rfl, rfl⟩
      refine .v (.pickT rfl (hg_11_20) rfl) ?_
      refine .as rfl (.nt hK14 (.ret ?_))
      refine AK.ret1 rfl rfl (fun w hw => ⟨_, _, ?_, rfl, Ret.of (hw.pick [] (by decide) rfl rfl)⟩)
      exact ⟨rfl, rfl⟩
     ·have hg_11_14' := hg_11_14
      try simp only [bs] at hg_11_14'
      refine AK.pass rfl rfl (hg_11_14) rfl ?_
      refine AK.val _ (Yl.pickF rfl (hg_11_14) rfl) ⟨_, rfl, rfl⟩ rfl ?_
      refine AK.val _ (Yl.move rfl) ⟨_, rfl, rfl⟩ rfl ?_
      refine AK.val _ (Yl.eqlB bo4 rfl rfl) ⟨_, rfl, rfl⟩ rfl ?_
      refine .v (.pickT rfl (rfl) rfl) ?_
      refine .mv rfl ?_
      refine AK.knownT (g := 122) rfl (by rw [← hEq]; simp_all) (fun hg_11_20 => ?_)
      refine AK.call co15 rfl (fun w hw => s_awake w) ⟨_, rfl, congrArg (fun b => some (Value.bool b)) hg_11_20⟩ rfl ?_
      rintro r o ⟨rfl, rfl⟩
      refine .v (.pickT rfl (hg_11_20) rfl) ?_
      refine .as rfl (.nt hK14 (.ret ?_))
      refine AK.ret1 rfl rfl (fun w hw => ⟨_, _, ?_, rfl, Ret.of (hw.pick [] (by decide) rfl rfl)⟩)
      exact ⟨rfl, rfl⟩
    ·have hg_11_8' := hg_11_8
     try simp only [bs] at hg_11_8'
     refine AK.val _ (Yl.move rfl) ⟨_, rfl, congrArg (fun b => some (Value.bool b)) hg_11_8⟩ rfl ?_
     refine AK.val _ (Yl.pickF rfl (hg_11_8) rfl) ⟨_, rfl, congrArg (fun b => some (Value.bool b)) hg_11_1⟩ rfl ?_
     refine .v (.pickT rfl (hg_11_1) rfl) ?_
     refine .mv rfl ?_
     refine AK.knownT (g := 114) rfl (by first | rfl | assumption | exact hTr (by simpa using hg_11_4) (by simpa using hg_11_8)) (fun hg_11_12 => ?_)
     refine AK.val _ (Yl.move rfl) ⟨_, rfl, congrArg (fun b => some (Value.bool b)) hg_11_12⟩ rfl ?_
     refine AK.val _ (Yl.move rfl) ⟨_, rfl, congrArg (fun b => some (Value.bool b)) hg_11_12⟩ rfl ?_
     refine AK.splitB (g := 116) rfl (fun hg_11_14 => ?_) (fun hg_11_14 => ?_)
     ·have hg_11_14' := hg_11_14
      try simp only [bs] at hg_11_14'
      refine AK.val _ (Yl.move rfl) ⟨_, rfl, congrArg (fun b => some (Value.bool b)) hg_11_14⟩ rfl ?_
      refine AK.val _ (Yl.pickT rfl (hg_11_14) rfl) ⟨_, rfl, congrArg (fun b => some (Value.bool b)) hg_11_12⟩ rfl ?_
      refine AK.val _ (Yl.move rfl) ⟨_, rfl, congrArg (fun b => some (Value.bool b)) hg_11_12⟩ rfl ?_
      refine AK.val _ (Yl.eqlB bo4 rfl rfl) ⟨_, rfl, congrArg (fun b => some (Value.bool b)) hg_11_12⟩ rfl ?_
      refine .v (.pickT rfl (hg_11_12) rfl) ?_
      refine .mv rfl ?_
      refine AK.knownT (g := 122) rfl (by rw [← hEq]; simp_all) (fun hg_11_20 => ?_)
      refine AK.call co15 rfl (fun w hw => s_awake w) ⟨_, rfl, congrArg (fun b => some (Value.bool b)) hg_11_20⟩ rfl ?_
      rintro r o ⟨rfl, rfl⟩
      refine .v (.pickT rfl (hg_11_20) rfl) ?_
      refine .as rfl (.nt hK14 (.ret ?_))
      refine AK.ret1 rfl rfl (fun w hw => ⟨_, _, ?_, rfl, Ret.of (hw.pick [] (by decide) rfl rfl)⟩)
      exact ⟨rfl, rfl⟩
     ·have hg_11_14' := hg_11_14
      try simp only [bs] at hg_11_14'
      refine AK.pass rfl rfl (hg_11_14) rfl ?_
      refine AK.val _ (Yl.pickF rfl (hg_11_14) rfl) ⟨_, rfl, congrArg (fun b => some (Value.bool b)) hg_11_12⟩ rfl ?_
      refine AK.val _ (Yl.move rfl) ⟨_, rfl, congrArg (fun b => some (Value.bool b)) hg_11_12⟩ rfl ?_
      refine AK.val _ (Yl.eqlB bo4 rfl rfl) ⟨_, rfl, congrArg (fun b => some (Value.bool b)) hg_11_12⟩ rfl ?_
      refine .v (.pickT rfl (hg_11_12) rfl) ?_
      refine .mv rfl ?_
      refine AK.knownT (g := 122) rfl (by rw [← hEq]; simp_all) (fun hg_11_20 => ?_)
      refine AK.call co15 rfl (fun w hw => s_awake w) ⟨_, rfl, congrArg (fun b => some (Value.bool b)) hg_11_20⟩ rfl ?_
      rintro r o ⟨rfl, rfl⟩
      refine .v (.pickT rfl (hg_11_20) rfl) ?_
      refine .as rfl (.nt hK14 (.ret ?_))
      refine AK.ret1 rfl rfl (fun w hw => ⟨_, _, ?_, rfl, Ret.of (hw.pick [] (by decide) rfl rfl)⟩)
      exact ⟨rfl, rfl⟩

set_option maxHeartbeats 2000000 in
set_option maxRecDepth 100000 in
theorem l_minimal (w : World) (u v : Value) (a b : Dfa) (hu : RdD (fun _ => False) w u a) (hv : RdD (fun _ => False) w v b) : CallS Try.prog 11 [u, v] w (fun r o => r = .bool true ∧ o = []) := by
 have hu0 := hu
 obtain ⟨aF, aN, rfl, haF, haN⟩ := hu
 have haF0 := haF
 unfold RdL at haF
 have ma := haF.le
 have hv0 := hv
 obtain ⟨bF, bN, rfl, hbF, hbN⟩ := hv
 have hbF0 := hbF
 unfold RdL at hbF
 have mb := hbF.le
 refine spec_of Try.func11 rfl (Nat.le_of_ble_eq_true rfl) ?_
 refine .sr fun _ hK1 => ?_
 refine AK.box_ (E := 25) (cs := [.int .i64 a.L, .int .i64 a.s, aF, aN]) rfl rfl rfl trivial rfl (fun bx2 => ?_)
 refine AK.box_ (E := 25) (cs := [.int .i64 b.L, .int .i64 b.s, bF, bN]) rfl rfl rfl trivial rfl (fun bx3 => ?_)
 refine .as rfl (.nt hK1 ?_)
 refine .seq fun _ hK2 => ?_
 refine .sr fun _ hK3 => ?_
 refine .v (.loadBoxG ag25 rfl bsp rfl rfl) ?_
 refine .v (.loadBoxG ag25 rfl bsp rfl rfl) ?_
 refine AK.call co20 rfl (fun w hw => s_both w _ _ a b (hu0.at hw) (hv0.at hw) 12) trivial rfl ?_
 rintro r o ⟨rfl, rfl⟩
 refine .v (.not rfl) ?_
 refine .nt hK3 ?_
 refine AK.condB rfl (fun hc0 => ?_) (fun hc0 => ?_)
 ·refine .sr fun _ hK4 => ?_
  refine AK.call co15 rfl (fun w hw => s_awake w) trivial rfl ?_
  rintro r o ⟨rfl, rfl⟩
  refine .as rfl (.nt hK4 (.ret (.then_ret ?_)))
  refine AK.ret1 rfl rfl (fun w hw => ⟨_, _, ?_, rfl, Ret.of (hw.pick [] (by decide) rfl rfl)⟩)
  exact ⟨rfl, rfl⟩
 ·obtain ⟨nla, nlb, hE⟩ : (a.fin.length : Int) ≤ 12 ∧ (b.fin.length : Int) ≤ 12 ∧ pairE a b = 0 := by simpa using hc0
  obtain ⟨e1, e2, e3, e4, e5⟩ := min_facts hE
  refine .skip ?_
  refine AK.then_ (hK2 _ ?_)
  refine .sr fun _ hK5 => ?_
  refine .v (.loadBoxG ag25 rfl bsp rfl rfl) ?_
  refine .v (.loadBoxG ag25 rfl bsp rfl rfl) ?_
  refine AK.call co13 rfl (fun w hw => s_find w _ _ a b (hu0.at hw) (hv0.at hw)) trivial rfl ?_
  rintro r o ⟨pv, rfl, spv, rfl⟩
  refine .mv rfl ?_
  refine .v (.extract rfl rfl) ?_
  refine .v (.extract rfl rfl) ?_
  refine .v (.extract rfl rfl) ?_
  refine .v (.extract rfl rfl) ?_
  refine .as rfl (.as rfl (.as rfl (.as rfl (.nt hK5 ?_))))
  refine .seq fun _ hK6 => ?_
  try (conv => enter [2, 2]; dsimp only [List.set_cons_zero, List.set_cons_succ, List.cons_append, List.nil_append])
  refine AK.held 13 mixed ?_
  refine HeldK.first 0 (fuel := 12) (listed' := (lb 13 1)) _ rfl krf krf rfl (Yl.loadBoxG ag25 rfl bsp rfl rfl) trivial rfl ?_
  refine HeldK.first 1 (fuel := 11) (listed' := (lb 13 3)) _ rfl krf krf rfl (Yl.loadBoxG ag25 rfl bsp rfl rfl) trivial rfl ?_
  refine HeldK.one 2 (fuel := 10) (listed' := (lb 13 7)) krf rfl krf ?_
  refine AK.call co32 rfl (fun w hw => s_min w _ a (hu0.at hw)) trivial rfl ?_
  rintro r o ⟨mF, mN, mrs, rfl, hmrs, smF, smN, rfl⟩
  rw [e1] at hmrs
  rw [e1]
  refine .nil ?_
  try (conv => enter [2, 2]; dsimp only [List.set_cons_zero, List.set_cons_succ, List.cons_append, List.nil_append])
  refine HeldK.back hle ?_
  refine HeldK.one 3 (fuel := 9) (listed' := (lb 13 15)) krf rfl krf ?_
  refine AK.call co13 rfl (fun w hw => s_find w _ _ a (minD a) (hu0.at hw) (RdD.own 3 hw hmrs rfl rfl rfl)) trivial rfl ?_
  rintro r o ⟨pv2, rfl, spv2, rfl⟩
  refine .nil ?_
  try (conv => enter [2, 2]; dsimp only [List.set_cons_zero, List.set_cons_succ, List.cons_append, List.nil_append])
  refine HeldK.back hle ?_
  refine HeldK.first 4 (fuel := 8) (listed' := (lb 13 31)) _ rfl krf krf rfl (Yl.move rfl) trivial rfl ?_
  refine HeldK.first 5 (fuel := 7) (listed' := (lb 13 63)) _ rfl krf krf rfl (Yl.extract rfl rfl) trivial rfl ?_
  refine HeldK.first 6 (fuel := 6) (listed' := (lb 13 127)) _ rfl krf krf rfl (Yl.extract rfl rfl) trivial rfl ?_
  refine HeldK.first 7 (fuel := 5) (listed' := (lb 13 255)) _ rfl krf krf rfl (Yl.extract rfl rfl) trivial rfl ?_
  refine HeldK.first 8 (fuel := 4) (listed' := (lb 13 511)) _ rfl krf krf rfl (Yl.extract rfl rfl) trivial rfl ?_
  refine HeldK.first 9 (fuel := 3) (listed' := (lb 13 1023)) _ rfl krf krf rfl (Yl.assign rfl) trivial rfl ?_
  refine HeldK.first 10 (fuel := 2) (listed' := (lb 13 2047)) _ rfl krf krf rfl (Yl.assign rfl) trivial rfl ?_
  refine HeldK.first 11 (fuel := 1) (listed' := (lb 13 4095)) _ rfl krf krf rfl (Yl.assign rfl) trivial rfl ?_
  refine HeldK.first 12 (fuel := 0) (listed' := (lb 13 8191)) _ rfl krf krf rfl (Yl.assign rfl) trivial rfl ?_
  refine HeldK.done krf ?_
  refine AK.then_ (hK6 _ ?_)
  refine .seq fun _ hK7 => ?_
  try (conv => enter [2, 2]; dsimp only [List.set_cons_zero, List.set_cons_succ, List.cons_append, List.nil_append])
  refine AK.held 22 mixed ?_
  refine HeldK.first 0 (fuel := 21) (listed' := (lb 22 1)) _ rfl krf krf rfl (Yl.move rfl) trivial rfl ?_
  refine HeldK.first 1 (fuel := 20) (listed' := (lb 22 3)) _ rfl krf krf rfl (Yl.eql rfl rfl) trivial rfl ?_
  refine HeldK.first 2 (fuel := 19) (listed' := (lb 22 7)) _ rfl krf krf rfl (Yl.move rfl) trivial rfl ?_
  refine AK.knownT (g := 37) rfl (decide_eq_true hE) (fun hg_5_2 => ?_)
  refine HeldK.first 3 (fuel := 18) (listed' := (lb 22 15)) _ rfl krf krf rfl (Yl.move rfl) ⟨_, rfl, congrArg (fun b => some (Value.bool b)) hg_5_2⟩ rfl ?_
  refine HeldK.first 4 (fuel := 17) (listed' := (lb 22 31)) _ rfl krf krf rfl (Yl.eql rfl rfl) ⟨_, rfl, congrArg (fun b => some (Value.bool b)) hg_5_2⟩ rfl ?_
  refine HeldK.first 5 (fuel := 16) (listed' := (lb 22 63)) _ rfl krf krf rfl (Yl.pickT rfl (hg_5_2) rfl) trivial rfl ?_
  refine HeldK.first 6 (fuel := 15) (listed' := (lb 22 127)) _ rfl krf krf rfl (Yl.move rfl) trivial rfl ?_
  refine AK.knownT (g := 41) rfl (decide_eq_true e3) (fun hg_5_6 => ?_)
  refine HeldK.first 7 (fuel := 14) (listed' := (lb 22 255)) _ rfl krf krf rfl (Yl.move rfl) ⟨_, rfl, congrArg (fun b => some (Value.bool b)) hg_5_6⟩ rfl ?_
  refine HeldK.first 8 (fuel := 13) (listed' := (lb 22 511)) _ rfl krf krf rfl (Yl.pickT rfl (hg_5_6) rfl) trivial rfl ?_
  refine HeldK.first 9 (fuel := 12) (listed' := (lb 22 1023)) _ rfl krf krf rfl (Yl.move rfl) trivial rfl ?_
  refine AK.knownT (g := 44) rfl (e4) (fun hg_5_9 => ?_)
  refine HeldK.first 10 (fuel := 11) (listed' := (lb 22 2047)) _ rfl krf krf rfl (Yl.move rfl) ⟨_, rfl, congrArg (fun b => some (Value.bool b)) hg_5_9⟩ rfl ?_
  refine HeldK.first 11 (fuel := 10) (listed' := (lb 22 4095)) _ rfl krf krf rfl (Yl.loadBoxG ag25 rfl bsp rfl rfl) ⟨_, rfl, congrArg (fun b => some (Value.bool b)) hg_5_9⟩ rfl ?_
  refine HeldK.first 13 (fuel := 9) (listed' := (lb 22 12287)) _ rfl krf krf rfl (Yl.loadBoxG ag25 rfl bsp rfl rfl) ⟨_, rfl, congrArg (fun b => some (Value.bool b)) hg_5_9⟩ rfl ?_
  refine HeldK.one 12 (fuel := 8) (listed' := (lb 22 16383)) krf rfl krf ?_
  refine AK.call co32 rfl (fun w hw => s_min w _ a (hu0.at hw)) ⟨_, rfl, congrArg (fun b => some (Value.bool b)) hg_5_9⟩ rfl ?_
  rintro r o ⟨uF, uN, urs, rfl, hurs, suF, suN, rfl⟩
  rw [e1] at hurs
  rw [e1]
  refine .nil ?_
  try (conv => enter [2, 2]; dsimp only [List.set_cons_zero, List.set_cons_succ, List.cons_append, List.nil_append])
  refine HeldK.back hle ?_
  refine HeldK.one 14 (fuel := 7) (listed' := (lb 22 32767)) krf rfl krf ?_
  refine AK.call co32 rfl (fun w hw => s_min w _ b (hv0.at hw)) ⟨_, rfl, congrArg (fun b => some (Value.bool b)) hg_5_9⟩ rfl ?_
  rintro r o ⟨tF, tN, trs, rfl, htrs, stF, stN, rfl⟩
  rw [e2] at htrs
  rw [e2]
  refine .nil ?_
  try (conv => enter [2, 2]; dsimp only [List.set_cons_zero, List.set_cons_succ, List.cons_append, List.nil_append])
  refine HeldK.back hle ?_
  refine HeldK.one 15 (fuel := 6) (listed' := (lb 22 65535)) krf rfl krf ?_
  refine AK.call co33 rfl (fun w hw => s_sameD w _ _ (minD a) (minD b) (RdD.own 7 hw hurs rfl rfl rfl) (RdD.own 10 hw htrs rfl rfl rfl)) ⟨_, rfl, congrArg (fun b => some (Value.bool b)) hg_5_9⟩ rfl ?_
  rintro r o ⟨rfl, rfl⟩
  refine .nil ?_
  try (conv => enter [2, 2]; dsimp only [List.set_cons_zero, List.set_cons_succ, List.cons_append, List.nil_append])
  refine HeldK.back hle ?_
  refine HeldK.first 16 (fuel := 5) (listed' := (lb 22 131071)) _ rfl krf krf rfl (Yl.eqlB bo4 rfl rfl) ⟨_, rfl, congrArg (fun b => some (Value.bool b)) hg_5_9⟩ rfl ?_
  refine HeldK.first 17 (fuel := 4) (listed' := (lb 22 262143)) _ rfl krf krf rfl (Yl.pickT rfl (hg_5_9) rfl) trivial rfl ?_
  refine HeldK.first 18 (fuel := 3) (listed' := (lb 22 524287)) _ rfl krf krf rfl (Yl.move rfl) trivial rfl ?_
  refine HeldK.one 19 (fuel := 2) (listed' := (lb 22 1048575)) krf rfl krf ?_
  refine AK.knownT (g := 53) rfl (by rw [e5]; exact beq_self_eq_true _) (fun hg_5_18 => ?_)
  refine AK.call co15 rfl (fun w hw => s_awake w) ⟨_, rfl, congrArg (fun b => some (Value.bool b)) hg_5_18⟩ rfl ?_
  rintro r o ⟨rfl, rfl⟩
  refine .nil ?_
  try (conv => enter [2, 2]; dsimp only [List.set_cons_zero, List.set_cons_succ, List.cons_append, List.nil_append])
  refine HeldK.back hle ?_
  refine HeldK.first 20 (fuel := 1) (listed' := (lb 22 2097151)) _ rfl krf krf rfl (Yl.pickT rfl (hg_5_18) rfl) trivial rfl ?_
  refine HeldK.first 21 (fuel := 0) (listed' := (lb 22 4194303)) _ rfl krf krf rfl (Yl.assign rfl) trivial rfl ?_
  refine HeldK.done krf ?_
  refine AK.then_ (hK7 _ ?_)
  refine .ret ?_
  refine AK.ret1 rfl rfl (fun w hw => ⟨_, _, ?_, rfl, Ret.of (hw.pick [] (by decide) rfl rfl)⟩)
  exact ⟨rfl, rfl⟩

end Go.Proofs.Ytifnofnnjcchhaa
