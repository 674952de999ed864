import Derived.Test.YtifnofnnjcchhaaB13
import Derived.Test.YtifnofnnjcchhaaB5
set_option linter.unusedVariables false
set_option linter.unusedSimpArgs false
namespace Go.Proofs.Ytifnofnnjcchhaa
open Go.Sx Go.RowKit Go.Sx.Pt
set_option maxHeartbeats 2000000 in
set_option maxRecDepth 100000 in
theorem l_isomorphic (w : World) (u v : Value) (a b : Dfa) (hu : RdD (fun _ => False) w u a) (hv : RdD (fun _ => False) w v b) : CallS Try.prog 7 [u, v] w (fun r o => r = .bool true ∧ o = []) := by
 have hu0 := hu
 obtain ⟨aF, aN, rfl, haF, haN⟩ := hu
 have haF0 := haF
 unfold RdL at haF
 have m1 := haF.le
 have hv0 := hv
 obtain ⟨bF, bN, rfl, hbF, hbN⟩ := hv
 have hbF0 := hbF
 unfold RdL at hbF
 have m2 := hbF.le
 refine spec_of Try.func7 rfl (Nat.le_of_ble_eq_true rfl) ?_
 refine .sr fun _ hK1 => ?_
 refine AK.box_ (E := 25) (cs := [.int .i64 a.L, .int .i64 a.s, aF, aN]) rfl rfl rfl trivial rfl (fun bx2 => ?_)
 refine AK.box_ (E := 25) (cs := [.int .i64 b.L, .int .i64 b.s, bF, bN]) rfl rfl rfl trivial rfl (fun bx3 => ?_)
 refine .as rfl (.nt hK1 ?_)
 refine .sr fun _ hK2 => ?_
 refine .v (.loadBoxG ag25 rfl bsp rfl rfl) ?_
 refine .v (.loadBoxG ag25 rfl bsp rfl rfl) ?_
 refine AK.call co23 rfl (fun w hw => s_iso w _ _ a b (hu0.at hw) (hv0.at hw)) trivial rfl ?_
 rintro r o ⟨fv, rfl, sfv, rfl⟩
 refine .mv rfl ?_
 refine .v (.extract rfl rfl) ?_
 refine .v (.extract rfl rfl) ?_
 refine .v (.extract rfl rfl) ?_
 refine .as rfl (.as rfl (.as rfl (.nt hK2 ?_)))
 refine .sr fun _ hK3 => ?_
 refine .v (.loadBoxG ag25 rfl bsp rfl rfl) ?_
 refine .v (.loadBoxG ag25 rfl bsp rfl rfl) ?_
 refine AK.call co14 rfl (fun w hw => s_refpair w _ _ a b (hu0.at hw) (hv0.at hw)) trivial rfl ?_
 rintro r o ⟨rfl, rfl⟩
 refine .as rfl (.nt hK3 ?_)
 refine .seq fun _ hK4 => ?_
 refine .sr fun _ hK5 => ?_
 refine .mv rfl ?_
 refine .v (.eql rfl rfl) ?_
 refine .nt hK5 ?_
 refine AK.condD rfl (fun hc0 => ?_) (fun hc0 => ?_)
 ·have hE : pairE a b = 0 := hc0
  obtain ⟨ha, hb, hL⟩ := pairE_zero hE
  have hna := ha.n
  have hnb := hb.n
  refine .sr fun _ hK6 => ?_
  refine .v (.loadBoxG ag25 rfl bsp rfl rfl) ?_
  refine AK.call co24 rfl (fun w hw => s_refaccess w _ a (hu0.at hw) ha) trivial rfl ?_
  rintro r o ⟨va, wa, sva, swa, rfl, rfl⟩
  refine .mv rfl ?_
  refine .v (.extract rfl rfl) ?_
  refine .v (.extract rfl rfl) ?_
  refine .as rfl (.as rfl (.nt hK6 ?_))
  refine .sr fun _ hK7 => ?_
  refine .v (.loadBoxG ag25 rfl bsp rfl rfl) ?_
  refine AK.call co24 rfl (fun w hw => s_refaccess w _ b (hv0.at hw) hb) trivial rfl ?_
  rintro r o ⟨vb, wb, svb, swb, rfl, rfl⟩
  refine .mv rfl ?_
  refine .v (.extract rfl rfl) ?_
  refine .v (.extract rfl rfl) ?_
  refine .as rfl (.as rfl (.nt hK7 ?_))
  refine .sr fun _ hK8 => ?_
  refine .mv rfl ?_
  refine .v (.lenR sl26 rfl rdp) ?_
  refine .v (.fieldAddr fd25_2 rfl) ?_
  refine .v (.loadBox on22 rfl bsp rfl) ?_
  refine .v (.lenR sl22 rfl rdp) ?_
  refine .v (.neq rfl rfl) ?_
  refine .mv rfl ?_
  refine AK.splitB (g := 43) rfl (fun hg_6_6 => ?_) (fun hg_6_6 => ?_)
  ·have hg_6_6' := hg_6_6
   try simp only [bs] at hg_6_6'
   refine AK.pass rfl rfl (hg_6_6) rfl ?_
   refine AK.pass rfl rfl (hg_6_6) rfl ?_
   refine AK.pass rfl rfl (hg_6_6) rfl ?_
   refine AK.pass rfl rfl (hg_6_6) rfl ?_
   refine AK.pass rfl rfl (hg_6_6) rfl ?_
   refine AK.pass rfl rfl (hg_6_6) rfl ?_
   refine .v (.pickT rfl (hg_6_6) rfl) ?_
   refine .nt hK8 ?_
   refine AK.cond_t rfl (rfl) ?_
   have hnf : ¬ (Full a ∧ Full b) := by rintro ⟨h1, h2⟩; unfold Full at h1 h2; omega
   have eE : IsoE a b = 4 := by unfold IsoE; rw [if_neg (by omega), if_neg hnf]
   have eB : IsoB a b = false := by unfold IsoB; rw [eE]; rfl
   have eF : IsoF a b = [] := if_neg (by rw [eB]; decide)
   refine AK.region ?_
   refine .as rfl (.nt hK4 ?_)
   refine .seq fun _ hK9 => ?_
   refine .sr fun _ hK10 => ?_
   refine .mv rfl ?_
   refine .v (.neq rfl rfl) ?_
   refine .nt hK10 ?_
   refine AK.cond_t rfl (by decide) ?_
   refine .sr fun _ hK11 => ?_
   refine .mv rfl (.mv rfl ?_)
   refine .v (.eql rfl rfl) ?_
   refine .mv rfl ?_
   refine AK.knownT (g := 56) rfl (decide_eq_true eE) (fun hg_9_3 => ?_)
   refine AK.val _ (Yl.move rfl) ⟨_, rfl, congrArg (fun b => some (Value.bool b)) hg_9_3⟩ rfl ?_
   refine AK.val _ (Yl.lenR sl26 rfl rdp) ⟨_, rfl, congrArg (fun b => some (Value.bool b)) hg_9_3⟩ rfl ?_
   refine AK.val _ (Yl.eql rfl rfl) ⟨_, rfl, congrArg (fun b => some (Value.bool b)) hg_9_3⟩ rfl ?_
   refine .v (.pickT rfl (hg_9_3) rfl) ?_
   refine .mv rfl ?_
   refine AK.knownT (g := 61) rfl (decide_eq_true (by rw [eF]; rfl)) (fun hg_9_8 => ?_)
   refine AK.val _ (Yl.move rfl) ⟨_, rfl, congrArg (fun b => some (Value.bool b)) hg_9_8⟩ rfl ?_
   refine AK.val _ (Yl.not rfl) ⟨_, rfl, congrArg (fun b => some (Value.bool b)) hg_9_8⟩ rfl ?_
   refine .v (.pickT rfl (hg_9_8) rfl) ?_
   refine .mv rfl ?_
   refine AK.knownT (g := 65) rfl (by rw [eB]; rfl) (fun hg_9_12 => ?_)
   refine AK.call co15 rfl (fun w hw => s_awake w) ⟨_, rfl, congrArg (fun b => some (Value.bool b)) hg_9_12⟩ rfl ?_
   rintro r o ⟨rfl, rfl⟩
   refine .v (.pickT rfl (hg_9_12) rfl) ?_
   refine .as rfl (.nt hK11 (.ret (.then_ret ?_)))
   refine AK.ret1 rfl rfl (fun w hw => ⟨_, _, ?_, rfl, Ret.of (hw.pick [] (by decide) rfl rfl)⟩)
   exact ⟨rfl, rfl⟩
  ·have hg_6_6' := hg_6_6
   try simp only [bs] at hg_6_6'
   refine AK.val _ (Yl.move rfl) ⟨_, rfl, congrArg (fun b => some (Value.bool b)) hg_6_6⟩ rfl ?_
   refine AK.val _ (Yl.lenR sl26 rfl rdp) ⟨_, rfl, congrArg (fun b => some (Value.bool b)) hg_6_6⟩ rfl ?_
   refine AK.val _ (Yl.fieldAddr fd25_2 rfl) ⟨_, rfl, congrArg (fun b => some (Value.bool b)) hg_6_6⟩ rfl ?_
   refine AK.val _ (Yl.loadBox on22 rfl bsp rfl) ⟨_, rfl, congrArg (fun b => some (Value.bool b)) hg_6_6⟩ rfl ?_
   refine AK.val _ (Yl.lenR sl22 rfl rdp) ⟨_, rfl, congrArg (fun b => some (Value.bool b)) hg_6_6⟩ rfl ?_
   refine AK.val _ (Yl.neq rfl rfl) ⟨_, rfl, congrArg (fun b => some (Value.bool b)) hg_6_6⟩ rfl ?_
   refine .v (.pickF rfl (hg_6_6) rfl) ?_
   refine .nt hK8 ?_
   refine AK.condNe rfl (fun hc1 => ?_) (fun hc1 => ?_)
   ·have hnf : ¬ (Full a ∧ Full b) := by rintro ⟨h1, h2⟩; unfold Full at h1 h2; omega
    have eE : IsoE a b = 4 := by unfold IsoE; rw [if_neg (by omega), if_neg hnf]
    have eB : IsoB a b = false := by unfold IsoB; rw [eE]; rfl
    have eF : IsoF a b = [] := if_neg (by rw [eB]; decide)
    refine AK.region ?_
    refine .as rfl (.nt hK4 ?_)
    refine .seq fun _ hK12 => ?_
    refine .sr fun _ hK13 => ?_
    refine .mv rfl ?_
    refine .v (.neq rfl rfl) ?_
    refine .nt hK13 ?_
    refine AK.cond_t rfl (by decide) ?_
    refine .sr fun _ hK14 => ?_
    refine .mv rfl (.mv rfl ?_)
    refine .v (.eql rfl rfl) ?_
    refine .mv rfl ?_
    refine AK.knownT (g := 56) rfl (decide_eq_true eE) (fun hg_9_3 => ?_)
    refine AK.val _ (Yl.move rfl) ⟨_, rfl, congrArg (fun b => some (Value.bool b)) hg_9_3⟩ rfl ?_
    refine AK.val _ (Yl.lenR sl26 rfl rdp) ⟨_, rfl, congrArg (fun b => some (Value.bool b)) hg_9_3⟩ rfl ?_
    refine AK.val _ (Yl.eql rfl rfl) ⟨_, rfl, congrArg (fun b => some (Value.bool b)) hg_9_3⟩ rfl ?_
    refine .v (.pickT rfl (hg_9_3) rfl) ?_
    refine .mv rfl ?_
    refine AK.knownT (g := 61) rfl (decide_eq_true (by rw [eF]; rfl)) (fun hg_9_8 => ?_)
    refine AK.val _ (Yl.move rfl) ⟨_, rfl, congrArg (fun b => some (Value.bool b)) hg_9_8⟩ rfl ?_
    refine AK.val _ (Yl.not rfl) ⟨_, rfl, congrArg (fun b => some (Value.bool b)) hg_9_8⟩ rfl ?_
    refine .v (.pickT rfl (hg_9_8) rfl) ?_
    refine .mv rfl ?_
    refine AK.knownT (g := 65) rfl (by rw [eB]; rfl) (fun hg_9_12 => ?_)
    refine AK.call co15 rfl (fun w hw => s_awake w) ⟨_, rfl, congrArg (fun b => some (Value.bool b)) hg_9_12⟩ rfl ?_
    rintro r o ⟨rfl, rfl⟩
    refine .v (.pickT rfl (hg_9_12) rfl) ?_
    refine .as rfl (.nt hK14 (.ret (.then_ret ?_)))
    refine AK.ret1 rfl rfl (fun w hw => ⟨_, _, ?_, rfl, Ret.of (hw.pick [] (by decide) rfl rfl)⟩)
    exact ⟨rfl, rfl⟩
   ·have hfa : Full a := by unfold Full; omega
    have hfb : Full b := by unfold Full; omega
    have eE : IsoE a b = 0 := by unfold IsoE; rw [if_neg (by omega), if_pos ⟨hfa, hfb⟩]
    have eB : IsoB a b = decide (trimD a = trimD b) := by unfold IsoB; rw [eE]; simp
    have eF : IsoF a b = (if trimD a = trimD b then isoL a b else []) := by unfold IsoF; rw [eB]; simp
    refine .skip ?_
    refine AK.then_ (hK4 _ ?_)
    refine .seq fun _ hK15 => ?_
    refine .sr fun _ hK16 => ?_
    refine .mv rfl ?_
    refine .v (.neq rfl rfl) ?_
    refine .nt hK16 ?_
    refine AK.cond_f rfl (decide_eq_false (fun h => h hE)) ?_
    refine .skip ?_
    refine AK.then_ (hK15 _ ?_)
    refine .sr fun _ hK17 => ?_
    refine .v (.loadBoxG ag25 rfl bsp rfl rfl) ?_
    refine .v (.loadBoxG ag25 rfl bsp rfl rfl) ?_
    refine AK.call co25 rfl (fun w hw => s_refiso w _ _ a b (hu0.at hw) (hv0.at hw) ha hb hfa hfb) trivial rfl ?_
    rintro r o ⟨nv, rfl, snv, rfl⟩
    refine .mv rfl ?_
    refine .v (.extract rfl rfl) ?_
    refine .v (.extract rfl rfl) ?_
    refine .as rfl (.as rfl (.nt hK17 ?_))
    refine .sr fun _ hK18 => ?_
    refine .mv rfl ?_
    refine .v (.eql rfl rfl) ?_
    refine .mv rfl ?_
    refine AK.knownT (g := 76) rfl (decide_eq_true eE) (fun hg_11_2 => ?_)
    refine AK.val _ (Yl.move rfl) ⟨_, rfl, congrArg (fun b => some (Value.bool b)) hg_11_2⟩ rfl ?_
    refine AK.val _ (Yl.move rfl) ⟨_, rfl, congrArg (fun b => some (Value.bool b)) hg_11_2⟩ rfl ?_
    refine AK.val _ (Yl.eqlB bo4 rfl rfl) ⟨_, rfl, congrArg (fun b => some (Value.bool b)) hg_11_2⟩ rfl ?_
    refine .v (.pickT rfl (hg_11_2) rfl) ?_
    refine .mv rfl ?_
    refine AK.knownT (g := 81) rfl (by rw [eB]; exact beq_self_eq_true _) (fun hg_11_7 => ?_)
    refine AK.val _ (Yl.move rfl) ⟨_, rfl, congrArg (fun b => some (Value.bool b)) hg_11_7⟩ rfl ?_
    refine AK.val _ (Yl.move rfl) ⟨_, rfl, congrArg (fun b => some (Value.bool b)) hg_11_7⟩ rfl ?_
    refine AK.call co17 rfl (fun w hw => s_same w fv nv (IsoF a b) (if trimD a = trimD b then isoL a b else []) (RdL.own 2 hw rfl) (RdL.own 7 hw rfl) (by rw [eF]; split; (rw [isoL_len]; omega); simp)) ⟨_, rfl, congrArg (fun b => some (Value.bool b)) hg_11_7⟩ rfl ?_
    rintro r o ⟨rfl, rfl⟩
    refine .v (.pickT rfl (hg_11_7) rfl) ?_
    refine .mv rfl ?_
    refine AK.knownT (g := 86) rfl (decide_eq_true eF) (fun hg_11_12 => ?_)
    refine AK.call co15 rfl (fun w hw => s_awake w) ⟨_, rfl, congrArg (fun b => some (Value.bool b)) hg_11_12⟩ rfl ?_
    rintro r o ⟨rfl, rfl⟩
    refine .v (.pickT rfl (hg_11_12) rfl) ?_
    refine .as rfl (.nt hK18 (.ret ?_))
    refine AK.ret1 rfl rfl (fun w hw => ⟨_, _, ?_, rfl, Ret.of (hw.pick [] (by decide) rfl rfl)⟩)
    exact ⟨rfl, rfl⟩
 ·have hE : pairE a b ≠ 0 := hc0
  have eE : IsoE a b = pairE a b := if_pos hE
  have eB : IsoB a b = false := by unfold IsoB; rw [eE, decide_eq_false hE]; rfl
  have eF : IsoF a b = [] := if_neg (by rw [eB]; decide)
  refine .skip ?_
  refine AK.then_ (hK4 _ ?_)
  refine .seq fun _ hK19 => ?_
  refine .sr fun _ hK20 => ?_
  refine .mv rfl ?_
  refine .v (.neq rfl rfl) ?_
  refine .nt hK20 ?_
  refine AK.cond_t rfl (decide_eq_true hE) ?_
  refine .sr fun _ hK21 => ?_
  refine .mv rfl (.mv rfl ?_)
  refine .v (.eql rfl rfl) ?_
  refine .mv rfl ?_
  refine AK.knownT (g := 56) rfl (decide_eq_true eE) (fun hg_9_3 => ?_)
  refine AK.val _ (Yl.move rfl) ⟨_, rfl, congrArg (fun b => some (Value.bool b)) hg_9_3⟩ rfl ?_
  refine AK.val _ (Yl.lenR sl26 rfl rdp) ⟨_, rfl, congrArg (fun b => some (Value.bool b)) hg_9_3⟩ rfl ?_
  refine AK.val _ (Yl.eql rfl rfl) ⟨_, rfl, congrArg (fun b => some (Value.bool b)) hg_9_3⟩ rfl ?_
  refine .v (.pickT rfl (hg_9_3) rfl) ?_
  refine .mv rfl ?_
  refine AK.knownT (g := 61) rfl (decide_eq_true (by rw [eF]; rfl)) (fun hg_9_8 => ?_)
  refine AK.val _ (Yl.move rfl) ⟨_, rfl, congrArg (fun b => some (Value.bool b)) hg_9_8⟩ rfl ?_
  refine AK.val _ (Yl.not rfl) ⟨_, rfl, congrArg (fun b => some (Value.bool b)) hg_9_8⟩ rfl ?_
  refine .v (.pickT rfl (hg_9_8) rfl) ?_
  refine .mv rfl ?_
  refine AK.knownT (g := 65) rfl (by rw [eB]; rfl) (fun hg_9_12 => ?_)
  refine AK.call co15 rfl (fun w hw => s_awake w) ⟨_, rfl, congrArg (fun b => some (Value.bool b)) hg_9_12⟩ rfl ?_
  rintro r o ⟨rfl, rfl⟩
  refine .v (.pickT rfl (hg_9_12) rfl) ?_
  refine .as rfl (.nt hK21 (.ret (.then_ret ?_)))
  refine AK.ret1 rfl rfl (fun w hw => ⟨_, _, ?_, rfl, Ret.of (hw.pick [] (by decide) rfl rfl)⟩)
  exact ⟨rfl, rfl⟩

theorem matG_setI {E : TypeId} {rs : List Value} {xss : List (List Int)} (h : rs.length = xss.length) {i : Nat} (hi : i < xss.length) (v : Value) (ys : List Int) : (matG (Value.int .i64) E rs xss).set i (row v E 1 ys.length (ys.map (Value.int .i64))) = matG (Value.int .i64) E (rs.set i v) (xss.set i ys) := matL_set h hi v ys
theorem set_getD_self {α : Type} {l : List α} {i : Nat} {z : α} (h : i < l.length) : l.set i (l.getD i z) = l := by
  apply List.ext_getElem?
  intro j
  by_cases e : i = j
  · subst e; rw [List.getElem?_set_self h, List.getD_eq_getElem?_getD, List.getElem?_eq_getElem h]; rfl
  · rw [List.getElem?_set_ne e]
theorem want_snoc (k n q : Nat) : ((List.range (q + 1)).map fun (q : Nat) => ((q : Int) + k) % (n : Int)) = ((List.range q).map fun (q : Nat) => ((q : Int) + k) % (n : Int)) ++ [((q : Int) + k) % (n : Int)] := by rw [List.range_succ, List.map_append]; rfl
theorem snoc_allP {P : Nat → Int → Prop} {ys : List Int} {t : Int} (h : ∀ x, x < ys.length → P x (ys.getD x 0)) (ht : P ys.length t) : ∀ x, x < (ys ++ [t]).length → P x ((ys ++ [t]).getD x 0) := by
  intro x hx
  rw [List.length_append, List.length_singleton] at hx
  rcases Nat.lt_or_ge x ys.length with h1 | h1
  · rw [List.getD_eq_getElem?_getD, List.getElem?_append_left h1, ← List.getD_eq_getElem?_getD]; exact h x h1
  · have : x = ys.length := by omega
    subst this
    simpa using ht
set_option maxHeartbeats 4000000 in
set_option maxRecDepth 100000 in
theorem l_renames (w : World) (v : Value) (d : Dfa) (h : RdD (fun _ => False) w v d) (tn : Int) (ht : -9223372036854775808 ≤ tn ∧ tn ≤ 9223372036854775807) : CallS Try.prog 8 [v, .int .i64 tn] w (fun r o => r = .bool true ∧ o = []) := by
 have h0 := h
 obtain ⟨vF, vN, rfl, hF, hN⟩ := h
 have hF0 := hF
 have hN0 := hN
 obtain ⟨rs, hrl, hNr, hNi⟩ := hN
 have sF := hF.sl
 have sN := hNr.sl
 have hmf := hF.le
 have hmn := hNr.le
 unfold RdL at hF
 refine spec_of Try.func8 rfl (Nat.le_of_ble_eq_true rfl) ?_
 refine .sr fun _ hK1 => ?_
 refine AK.box_ (E := 25) (cs := [.int .i64 d.L, .int .i64 d.s, vF, vN]) rfl rfl rfl trivial rfl (fun bx2 => ?_)
 refine .as rfl (.nt hK1 ?_)
 refine .seq fun _ hK2 => ?_
 refine .sr fun _ hK3 => ?_
 refine .v (.fieldAddr fd25_2 rfl) ?_
 refine .v (.loadBox on22 rfl bsp rfl) ?_
 refine .v (.lenR sl22 rfl (by first | exact rdp | exact .big 3 _ rfl (matG_get htrs (by omega)))) ?_
 refine .v (.gtr rfl rfl) ?_
 refine .mv rfl ?_
 refine AK.splitB (g := 22) rfl (fun hg_1_4 => ?_) (fun hg_1_4 => ?_)
 ·have hg_1_4' := hg_1_4
  try simp only [bs] at hg_1_4'
  refine AK.pass rfl rfl (hg_1_4) rfl ?_
  refine AK.pass rfl rfl (hg_1_4) rfl ?_
  refine AK.pass rfl rfl (hg_1_4) rfl ?_
  refine .v (.pickT rfl (hg_1_4) rfl) ?_
  refine .nt hK3 ?_
  refine AK.cond_t rfl (rfl) ?_
  refine .sr fun _ hK4 => ?_
  refine AK.call co15 rfl (fun w hw => s_awake w) trivial rfl ?_
  rintro r o ⟨rfl, rfl⟩
  refine .as rfl (.nt hK4 (.ret (.then_ret ?_)))
  refine AK.ret1 rfl rfl (fun w hw => ⟨_, _, ?_, rfl, Ret.of (hw.pick [] (by decide) rfl rfl)⟩)
  exact ⟨rfl, rfl⟩
 ·have hg_1_4' := hg_1_4
  try simp only [bs] at hg_1_4'
  refine AK.val _ (Yl.loadBoxG ag25 rfl bsp rfl rfl) ⟨_, rfl, congrArg (fun b => some (Value.bool b)) hg_1_4⟩ rfl ?_
  refine AK.call co26 rfl (fun w hw => s_refvalidate w _ d (h0.at hw)) ⟨_, rfl, congrArg (fun b => some (Value.bool b)) hg_1_4⟩ rfl ?_
  rintro r o ⟨rfl, rfl⟩
  refine AK.val _ (Yl.neq rfl rfl) ⟨_, rfl, congrArg (fun b => some (Value.bool b)) hg_1_4⟩ rfl ?_
  refine .v (.pickF rfl (hg_1_4) rfl) ?_
  refine .nt hK3 ?_
  refine AK.condNe rfl (fun hc0 => ?_) (fun hc0 => ?_)
  ·refine .sr fun _ hK5 => ?_
   refine AK.call co15 rfl (fun w hw => s_awake w) trivial rfl ?_
   rintro r o ⟨rfl, rfl⟩
   refine .as rfl (.nt hK5 (.ret (.then_ret ?_)))
   refine AK.ret1 rfl rfl (fun w hw => ⟨_, _, ?_, rfl, Ret.of (hw.pick [] (by decide) rfl rfl)⟩)
   exact ⟨rfl, rfl⟩
  ·have hv : VD d := (errV_iff d).1 (by omega)
   have hn20 : d.fin.length ≤ 20 := by omega
   have htv := trim_vd hv
   have hts := htv.s
   have htL := htv.L
   have htx := htv.nx
   have htl : (trimD d).fin.length ≤ d.fin.length := by rw [trim_fl]; exact (TSt_ok hv).2.2.1
   obtain ⟨k, ek, hk, hp1, hq1⟩ := idx_ok tn (n := (trimD d).fin.length) (by omega)
   refine .skip ?_
   refine AK.then_ (hK2 _ ?_)
   refine .sr fun _ hK6 => ?_
   refine .v (.loadBoxG ag25 rfl bsp rfl rfl) ?_
   refine AK.call co27 rfl (fun w hw => s_reftrim w _ d (h0.at hw) hv) trivial rfl ?_
   rintro r o ⟨tF, tN, tM, trs, rfl, htrs, stF, stN, stM, rfl⟩
   refine .mv rfl ?_
   refine .v (.extract rfl rfl) ?_
   refine .v (.extract rfl rfl) ?_
   refine AK.alloc el25 rfl rfl trivial rfl (fun bx5 => ?_)
   refine AK.storeBox 5 (us := [.int .i64 (trimD d).L, .int .i64 (trimD d).s, tF, tN]) (cs' := [.int .i64 (trimD d).L, .int .i64 (trimD d).s, tF, tN]) rfl sz25 rfl rfl rfl rfl oneP (Nat.le_of_ble_eq_true rfl) rfl trivial ?_
   refine .as rfl (.nt hK6 ?_)
   refine .sr fun _ hK7 => ?_
   refine .v (.fieldAddr fd25_2 rfl) ?_
   refine .v (.loadBox on22 rfl bsp rfl) ?_
   refine .v (.lenR sl22 rfl (by first | exact rdp | exact .big 3 _ rfl (matG_get htrs (by omega)))) ?_
   refine .as rfl (.nt hK7 ?_)
   refine .sr fun _ hK8 => ?_
   refine .mv rfl (.mv rfl ?_)
   refine .v (.remT rfl rfl ht (by omega)) ?_
   refine .mv rfl ?_
   refine .v (.add rfl rfl (by omega)) ?_
   refine .mv rfl ?_
   refine AK.val (.int .i64 (k : Int)) (Yl.valE (Yl.rem rfl rfl (by omega) (by omega)) (congrArg (Value.int .i64) ek)) trivial rfl ?_
   refine .as rfl (.nt hK8 ?_)
   refine .seq fun _ hK9 => ?_
   refine AK.joinK (X := Value × Value × Nat) [(5, _), (7, _), (8, _)] (fun z => [(9, .pointer (some ⟨z.2.2, 0, none⟩))]) (fun z => [box bx2 25 4 [.int .i64 d.L, .int .i64 d.s, vF, vN], row tF 4 1 (trimD d).fin.length ((trimD d).fin.map Value.bool), row tN 26 1 (trimD d).nx.length trs, bigA (matG (Value.int .i64) 3 trs (trimD d).nx), row tM 3 1 (numT d).length ((numT d).map (Value.int .i64)), box bx5 25 4 [.int .i64 (trimD d).L, .int .i64 (trimD d).s, tF, tN], row z.1 4 1 (trimD d).fin.length (List.replicate (trimD d).fin.length (Value.bool false)), row z.2.1 26 1 (trimD d).fin.length (List.replicate (trimD d).fin.length (Value.slice none 0 0)), box z.2.2 25 4 [.int .i64 (trimD d).L, .int .i64 (k : Int), z.1, z.2.1]]) (fun z => IsSl z.1 ∧ IsSl z.2.1) slr (fun _ hJ => ?_) (fun z hg => ?_)
   ·try (conv => enter [2, 2]; dsimp only [List.set_cons_zero, List.set_cons_succ, List.cons_append, List.nil_append])
    refine AK.held 9 mixed ?_
    refine HeldK.first 0 (fuel := 9) (listed' := (lb 10 1)) _ rfl krf krf rfl (Yl.fieldAddr fd25_0 rfl) trivial rfl ?_
    refine HeldK.first 1 (fuel := 8) (listed' := (lb 10 3)) _ rfl krf krf rfl (Yl.loadBox on3 rfl bsp rfl) trivial rfl ?_
    refine HeldK.first 2 (fuel := 7) (listed' := (lb 10 7)) _ rfl krf krf rfl (Yl.move rfl) trivial rfl ?_
    refine HeldK.first 3 (fuel := 6) (listed' := (lb 10 15)) _ rfl krf krf rfl (Yl.move rfl) trivial rfl ?_
    refine HeldK.first 5 (fuel := 5) (listed' := (lb 10 47)) _ rfl krf krf rfl (Yl.move rfl) trivial rfl ?_
    refine HeldK.three 4 6 8 (fuel := 4) (listed1 := (lb 10 63)) (listed2 := (lb 10 111)) (listed3 := (lb 10 303)) krf rfl rfl rfl krf krf krf ?_ ?_ ?_
    ·refine AK.make1 (n := (trimD d).fin.length) sl22 el4 rfl rfl rfl (by omega) (by omega) trivial rfl (fun mv0 => ?_)
     first | refine AK.shape (v := mv0) 6 rfl (fun smv0 => ?_) | refine AK.shape (v := mv0) 7 rfl (fun smv0 => ?_) | refine AK.shape (v := mv0) 8 rfl (fun smv0 => ?_)
     refine .nil ?_
     try (conv => enter [2, 2]; dsimp only [List.set_cons_zero, List.set_cons_succ, List.cons_append, List.nil_append])
     refine HeldK.back hle ?_
     refine HeldK.two 6 8 (fuel := 3) (listed1 := (lb 10 127)) (listed2 := (lb 10 319)) krf rfl rfl krf krf ?_ ?_
     ·refine AK.make1 (n := (trimD d).fin.length) sl23 el26 rfl rfl rfl (by omega) (by omega) trivial rfl (fun mv1 => ?_)
      first | refine AK.shape (v := mv1) 6 rfl (fun smv1 => ?_) | refine AK.shape (v := mv1) 7 rfl (fun smv1 => ?_) | refine AK.shape (v := mv1) 8 rfl (fun smv1 => ?_)
      refine .nil ?_
      try (conv => enter [2, 2]; dsimp only [List.set_cons_zero, List.set_cons_succ, List.cons_append, List.nil_append])
      refine HeldK.back hle ?_
      refine HeldK.first 7 (fuel := 2) (listed' := (lb 10 255)) _ rfl krf krf rfl (Yl.build (parts := [(0, .tmp 44), (1, .tmp 45), (2, .tmp 47), (3, .tmp 49)]) (cs := #[.int .i64 (trimD d).L, .int .i64 (k : Int), mv0, mv1]) rfl (by obtain ⟨_, _, _, rfl⟩ := smv0; obtain ⟨_, _, _, rfl⟩ := smv1; kernel_rfl)) trivial rfl ?_
      refine HeldK.one 8 (fuel := 1) (listed' := (lb 10 511)) krf rfl krf ?_
      refine AK.alloc el25 rfl rfl trivial rfl (fun bx9 => ?_)
      refine .nil ?_
      try (conv => enter [2, 2]; dsimp only [List.set_cons_zero, List.set_cons_succ, List.cons_append, List.nil_append])
      refine HeldK.back hle ?_
      refine HeldK.one 9 (fuel := 0) (listed' := (lb 10 1023)) krf rfl krf ?_
      first | refine AK.storeBox 6 (us := [.int .i64 (trimD d).L, .int .i64 (k : Int), mv0, mv1]) (cs' := [.int .i64 (trimD d).L, .int .i64 (k : Int), mv0, mv1]) rfl sz25 rfl rfl rfl rfl oneP (Nat.le_of_ble_eq_true rfl) rfl trivial ?_ | refine AK.storeBox 7 (us := [.int .i64 (trimD d).L, .int .i64 (k : Int), mv0, mv1]) (cs' := [.int .i64 (trimD d).L, .int .i64 (k : Int), mv0, mv1]) rfl sz25 rfl rfl rfl rfl oneP (Nat.le_of_ble_eq_true rfl) rfl trivial ?_ | refine AK.storeBox 8 (us := [.int .i64 (trimD d).L, .int .i64 (k : Int), mv0, mv1]) (cs' := [.int .i64 (trimD d).L, .int .i64 (k : Int), mv0, mv1]) rfl sz25 rfl rfl rfl rfl oneP (Nat.le_of_ble_eq_true rfl) rfl trivial ?_
      refine .nil ?_
      try (conv => enter [2, 2]; dsimp only [List.set_cons_zero, List.set_cons_succ, List.cons_append, List.nil_append])
      refine HeldK.backN 10 krf rfl krf ?_
      refine .nil ?_
      refine AK.fromQn ?_
      exact hJ _ _ ((mv0, mv1, bx9)) ⟨smv0, smv1⟩ (slr) (fun w hw => by first | exact hw.pick [0, 1, 2, 3, 4, 5, 6, 7, 8] (by decide) rfl rfl | exact hw.pick [0, 1, 2, 3, 4, 5, 6, 8, 7] (by decide) rfl rfl | exact hw.pick [0, 1, 2, 3, 4, 5, 7, 6, 8] (by decide) rfl rfl | exact hw.pick [0, 1, 2, 3, 4, 5, 7, 8, 6] (by decide) rfl rfl | exact hw.pick [0, 1, 2, 3, 4, 5, 8, 6, 7] (by decide) rfl rfl | exact hw.pick [0, 1, 2, 3, 4, 5, 8, 7, 6] (by decide) rfl rfl)
     ·refine AK.alloc el25 rfl rfl trivial rfl (fun bx9 => ?_)
      refine .nil ?_
      try (conv => enter [2, 2]; dsimp only [List.set_cons_zero, List.set_cons_succ, List.cons_append, List.nil_append])
      refine HeldK.back hle ?_
      refine HeldK.one 6 (fuel := 2) (listed' := (lb 10 383)) krf rfl krf ?_
      refine AK.make1 (n := (trimD d).fin.length) sl23 el26 rfl rfl rfl (by omega) (by omega) trivial rfl (fun mv1 => ?_)
      first | refine AK.shape (v := mv1) 6 rfl (fun smv1 => ?_) | refine AK.shape (v := mv1) 7 rfl (fun smv1 => ?_) | refine AK.shape (v := mv1) 8 rfl (fun smv1 => ?_)
      refine .nil ?_
      try (conv => enter [2, 2]; dsimp only [List.set_cons_zero, List.set_cons_succ, List.cons_append, List.nil_append])
      refine HeldK.back hle ?_
      refine HeldK.first 7 (fuel := 1) (listed' := (lb 10 511)) _ rfl krf krf rfl (Yl.build (parts := [(0, .tmp 44), (1, .tmp 45), (2, .tmp 47), (3, .tmp 49)]) (cs := #[.int .i64 (trimD d).L, .int .i64 (k : Int), mv0, mv1]) rfl (by obtain ⟨_, _, _, rfl⟩ := smv0; obtain ⟨_, _, _, rfl⟩ := smv1; kernel_rfl)) trivial rfl ?_
      refine HeldK.one 9 (fuel := 0) (listed' := (lb 10 1023)) krf rfl krf ?_
      first | refine AK.storeBox 6 (us := [.int .i64 (trimD d).L, .int .i64 (k : Int), mv0, mv1]) (cs' := [.int .i64 (trimD d).L, .int .i64 (k : Int), mv0, mv1]) rfl sz25 rfl rfl rfl rfl oneP (Nat.le_of_ble_eq_true rfl) rfl trivial ?_ | refine AK.storeBox 7 (us := [.int .i64 (trimD d).L, .int .i64 (k : Int), mv0, mv1]) (cs' := [.int .i64 (trimD d).L, .int .i64 (k : Int), mv0, mv1]) rfl sz25 rfl rfl rfl rfl oneP (Nat.le_of_ble_eq_true rfl) rfl trivial ?_ | refine AK.storeBox 8 (us := [.int .i64 (trimD d).L, .int .i64 (k : Int), mv0, mv1]) (cs' := [.int .i64 (trimD d).L, .int .i64 (k : Int), mv0, mv1]) rfl sz25 rfl rfl rfl rfl oneP (Nat.le_of_ble_eq_true rfl) rfl trivial ?_
      refine .nil ?_
      try (conv => enter [2, 2]; dsimp only [List.set_cons_zero, List.set_cons_succ, List.cons_append, List.nil_append])
      refine HeldK.backN 10 krf rfl krf ?_
      refine .nil ?_
      refine AK.fromQn ?_
      exact hJ _ _ ((mv0, mv1, bx9)) ⟨smv0, smv1⟩ (slr) (fun w hw => by first | exact hw.pick [0, 1, 2, 3, 4, 5, 6, 7, 8] (by decide) rfl rfl | exact hw.pick [0, 1, 2, 3, 4, 5, 6, 8, 7] (by decide) rfl rfl | exact hw.pick [0, 1, 2, 3, 4, 5, 7, 6, 8] (by decide) rfl rfl | exact hw.pick [0, 1, 2, 3, 4, 5, 7, 8, 6] (by decide) rfl rfl | exact hw.pick [0, 1, 2, 3, 4, 5, 8, 6, 7] (by decide) rfl rfl | exact hw.pick [0, 1, 2, 3, 4, 5, 8, 7, 6] (by decide) rfl rfl)
    ·refine AK.make1 (n := (trimD d).fin.length) sl23 el26 rfl rfl rfl (by omega) (by omega) trivial rfl (fun mv1 => ?_)
     first | refine AK.shape (v := mv1) 6 rfl (fun smv1 => ?_) | refine AK.shape (v := mv1) 7 rfl (fun smv1 => ?_) | refine AK.shape (v := mv1) 8 rfl (fun smv1 => ?_)
     refine .nil ?_
     try (conv => enter [2, 2]; dsimp only [List.set_cons_zero, List.set_cons_succ, List.cons_append, List.nil_append])
     refine HeldK.back hle ?_
     refine HeldK.two 4 8 (fuel := 3) (listed1 := (lb 10 127)) (listed2 := (lb 10 367)) krf rfl rfl krf krf ?_ ?_
     ·refine AK.make1 (n := (trimD d).fin.length) sl22 el4 rfl rfl rfl (by omega) (by omega) trivial rfl (fun mv0 => ?_)
      first | refine AK.shape (v := mv0) 6 rfl (fun smv0 => ?_) | refine AK.shape (v := mv0) 7 rfl (fun smv0 => ?_) | refine AK.shape (v := mv0) 8 rfl (fun smv0 => ?_)
      refine .nil ?_
      try (conv => enter [2, 2]; dsimp only [List.set_cons_zero, List.set_cons_succ, List.cons_append, List.nil_append])
      refine HeldK.back hle ?_
      refine HeldK.first 7 (fuel := 2) (listed' := (lb 10 255)) _ rfl krf krf rfl (Yl.build (parts := [(0, .tmp 44), (1, .tmp 45), (2, .tmp 47), (3, .tmp 49)]) (cs := #[.int .i64 (trimD d).L, .int .i64 (k : Int), mv0, mv1]) rfl (by obtain ⟨_, _, _, rfl⟩ := smv0; obtain ⟨_, _, _, rfl⟩ := smv1; kernel_rfl)) trivial rfl ?_
      refine HeldK.one 8 (fuel := 1) (listed' := (lb 10 511)) krf rfl krf ?_
      refine AK.alloc el25 rfl rfl trivial rfl (fun bx9 => ?_)
      refine .nil ?_
      try (conv => enter [2, 2]; dsimp only [List.set_cons_zero, List.set_cons_succ, List.cons_append, List.nil_append])
      refine HeldK.back hle ?_
      refine HeldK.one 9 (fuel := 0) (listed' := (lb 10 1023)) krf rfl krf ?_
      first | refine AK.storeBox 6 (us := [.int .i64 (trimD d).L, .int .i64 (k : Int), mv0, mv1]) (cs' := [.int .i64 (trimD d).L, .int .i64 (k : Int), mv0, mv1]) rfl sz25 rfl rfl rfl rfl oneP (Nat.le_of_ble_eq_true rfl) rfl trivial ?_ | refine AK.storeBox 7 (us := [.int .i64 (trimD d).L, .int .i64 (k : Int), mv0, mv1]) (cs' := [.int .i64 (trimD d).L, .int .i64 (k : Int), mv0, mv1]) rfl sz25 rfl rfl rfl rfl oneP (Nat.le_of_ble_eq_true rfl) rfl trivial ?_ | refine AK.storeBox 8 (us := [.int .i64 (trimD d).L, .int .i64 (k : Int), mv0, mv1]) (cs' := [.int .i64 (trimD d).L, .int .i64 (k : Int), mv0, mv1]) rfl sz25 rfl rfl rfl rfl oneP (Nat.le_of_ble_eq_true rfl) rfl trivial ?_
      refine .nil ?_
      try (conv => enter [2, 2]; dsimp only [List.set_cons_zero, List.set_cons_succ, List.cons_append, List.nil_append])
      refine HeldK.backN 10 krf rfl krf ?_
      refine .nil ?_
      refine AK.fromQn ?_
      exact hJ _ _ ((mv0, mv1, bx9)) ⟨smv0, smv1⟩ (slr) (fun w hw => by first | exact hw.pick [0, 1, 2, 3, 4, 5, 6, 7, 8] (by decide) rfl rfl | exact hw.pick [0, 1, 2, 3, 4, 5, 6, 8, 7] (by decide) rfl rfl | exact hw.pick [0, 1, 2, 3, 4, 5, 7, 6, 8] (by decide) rfl rfl | exact hw.pick [0, 1, 2, 3, 4, 5, 7, 8, 6] (by decide) rfl rfl | exact hw.pick [0, 1, 2, 3, 4, 5, 8, 6, 7] (by decide) rfl rfl | exact hw.pick [0, 1, 2, 3, 4, 5, 8, 7, 6] (by decide) rfl rfl)
     ·refine AK.alloc el25 rfl rfl trivial rfl (fun bx9 => ?_)
      refine .nil ?_
      try (conv => enter [2, 2]; dsimp only [List.set_cons_zero, List.set_cons_succ, List.cons_append, List.nil_append])
      refine HeldK.back hle ?_
      refine HeldK.one 4 (fuel := 2) (listed' := (lb 10 383)) krf rfl krf ?_
      refine AK.make1 (n := (trimD d).fin.length) sl22 el4 rfl rfl rfl (by omega) (by omega) trivial rfl (fun mv0 => ?_)
      first | refine AK.shape (v := mv0) 6 rfl (fun smv0 => ?_) | refine AK.shape (v := mv0) 7 rfl (fun smv0 => ?_) | refine AK.shape (v := mv0) 8 rfl (fun smv0 => ?_)
      refine .nil ?_
      try (conv => enter [2, 2]; dsimp only [List.set_cons_zero, List.set_cons_succ, List.cons_append, List.nil_append])
      refine HeldK.back hle ?_
      refine HeldK.first 7 (fuel := 1) (listed' := (lb 10 511)) _ rfl krf krf rfl (Yl.build (parts := [(0, .tmp 44), (1, .tmp 45), (2, .tmp 47), (3, .tmp 49)]) (cs := #[.int .i64 (trimD d).L, .int .i64 (k : Int), mv0, mv1]) rfl (by obtain ⟨_, _, _, rfl⟩ := smv0; obtain ⟨_, _, _, rfl⟩ := smv1; kernel_rfl)) trivial rfl ?_
      refine HeldK.one 9 (fuel := 0) (listed' := (lb 10 1023)) krf rfl krf ?_
      first | refine AK.storeBox 6 (us := [.int .i64 (trimD d).L, .int .i64 (k : Int), mv0, mv1]) (cs' := [.int .i64 (trimD d).L, .int .i64 (k : Int), mv0, mv1]) rfl sz25 rfl rfl rfl rfl oneP (Nat.le_of_ble_eq_true rfl) rfl trivial ?_ | refine AK.storeBox 7 (us := [.int .i64 (trimD d).L, .int .i64 (k : Int), mv0, mv1]) (cs' := [.int .i64 (trimD d).L, .int .i64 (k : Int), mv0, mv1]) rfl sz25 rfl rfl rfl rfl oneP (Nat.le_of_ble_eq_true rfl) rfl trivial ?_ | refine AK.storeBox 8 (us := [.int .i64 (trimD d).L, .int .i64 (k : Int), mv0, mv1]) (cs' := [.int .i64 (trimD d).L, .int .i64 (k : Int), mv0, mv1]) rfl sz25 rfl rfl rfl rfl oneP (Nat.le_of_ble_eq_true rfl) rfl trivial ?_
      refine .nil ?_
      try (conv => enter [2, 2]; dsimp only [List.set_cons_zero, List.set_cons_succ, List.cons_append, List.nil_append])
      refine HeldK.backN 10 krf rfl krf ?_
      refine .nil ?_
      refine AK.fromQn ?_
      exact hJ _ _ ((mv0, mv1, bx9)) ⟨smv0, smv1⟩ (slr) (fun w hw => by first | exact hw.pick [0, 1, 2, 3, 4, 5, 6, 7, 8] (by decide) rfl rfl | exact hw.pick [0, 1, 2, 3, 4, 5, 6, 8, 7] (by decide) rfl rfl | exact hw.pick [0, 1, 2, 3, 4, 5, 7, 6, 8] (by decide) rfl rfl | exact hw.pick [0, 1, 2, 3, 4, 5, 7, 8, 6] (by decide) rfl rfl | exact hw.pick [0, 1, 2, 3, 4, 5, 8, 6, 7] (by decide) rfl rfl | exact hw.pick [0, 1, 2, 3, 4, 5, 8, 7, 6] (by decide) rfl rfl)
    ·refine AK.alloc el25 rfl rfl trivial rfl (fun bx9 => ?_)
     refine .nil ?_
     try (conv => enter [2, 2]; dsimp only [List.set_cons_zero, List.set_cons_succ, List.cons_append, List.nil_append])
     refine HeldK.back hle ?_
     refine HeldK.two 4 6 (fuel := 3) (listed1 := (lb 10 319)) (listed2 := (lb 10 367)) krf rfl rfl krf krf ?_ ?_
     ·refine AK.make1 (n := (trimD d).fin.length) sl22 el4 rfl rfl rfl (by omega) (by omega) trivial rfl (fun mv0 => ?_)
      first | refine AK.shape (v := mv0) 6 rfl (fun smv0 => ?_) | refine AK.shape (v := mv0) 7 rfl (fun smv0 => ?_) | refine AK.shape (v := mv0) 8 rfl (fun smv0 => ?_)
      refine .nil ?_
      try (conv => enter [2, 2]; dsimp only [List.set_cons_zero, List.set_cons_succ, List.cons_append, List.nil_append])
      refine HeldK.back hle ?_
      refine HeldK.one 6 (fuel := 2) (listed' := (lb 10 383)) krf rfl krf ?_
      refine AK.make1 (n := (trimD d).fin.length) sl23 el26 rfl rfl rfl (by omega) (by omega) trivial rfl (fun mv1 => ?_)
      first | refine AK.shape (v := mv1) 6 rfl (fun smv1 => ?_) | refine AK.shape (v := mv1) 7 rfl (fun smv1 => ?_) | refine AK.shape (v := mv1) 8 rfl (fun smv1 => ?_)
      refine .nil ?_
      try (conv => enter [2, 2]; dsimp only [List.set_cons_zero, List.set_cons_succ, List.cons_append, List.nil_append])
      refine HeldK.back hle ?_
      refine HeldK.first 7 (fuel := 1) (listed' := (lb 10 511)) _ rfl krf krf rfl (Yl.build (parts := [(0, .tmp 44), (1, .tmp 45), (2, .tmp 47), (3, .tmp 49)]) (cs := #[.int .i64 (trimD d).L, .int .i64 (k : Int), mv0, mv1]) rfl (by obtain ⟨_, _, _, rfl⟩ := smv0; obtain ⟨_, _, _, rfl⟩ := smv1; kernel_rfl)) trivial rfl ?_
      refine HeldK.one 9 (fuel := 0) (listed' := (lb 10 1023)) krf rfl krf ?_
      first | refine AK.storeBox 6 (us := [.int .i64 (trimD d).L, .int .i64 (k : Int), mv0, mv1]) (cs' := [.int .i64 (trimD d).L, .int .i64 (k : Int), mv0, mv1]) rfl sz25 rfl rfl rfl rfl oneP (Nat.le_of_ble_eq_true rfl) rfl trivial ?_ | refine AK.storeBox 7 (us := [.int .i64 (trimD d).L, .int .i64 (k : Int), mv0, mv1]) (cs' := [.int .i64 (trimD d).L, .int .i64 (k : Int), mv0, mv1]) rfl sz25 rfl rfl rfl rfl oneP (Nat.le_of_ble_eq_true rfl) rfl trivial ?_ | refine AK.storeBox 8 (us := [.int .i64 (trimD d).L, .int .i64 (k : Int), mv0, mv1]) (cs' := [.int .i64 (trimD d).L, .int .i64 (k : Int), mv0, mv1]) rfl sz25 rfl rfl rfl rfl oneP (Nat.le_of_ble_eq_true rfl) rfl trivial ?_
      refine .nil ?_
      try (conv => enter [2, 2]; dsimp only [List.set_cons_zero, List.set_cons_succ, List.cons_append, List.nil_append])
      refine HeldK.backN 10 krf rfl krf ?_
      refine .nil ?_
      refine AK.fromQn ?_
      exact hJ _ _ ((mv0, mv1, bx9)) ⟨smv0, smv1⟩ (slr) (fun w hw => by first | exact hw.pick [0, 1, 2, 3, 4, 5, 6, 7, 8] (by decide) rfl rfl | exact hw.pick [0, 1, 2, 3, 4, 5, 6, 8, 7] (by decide) rfl rfl | exact hw.pick [0, 1, 2, 3, 4, 5, 7, 6, 8] (by decide) rfl rfl | exact hw.pick [0, 1, 2, 3, 4, 5, 7, 8, 6] (by decide) rfl rfl | exact hw.pick [0, 1, 2, 3, 4, 5, 8, 6, 7] (by decide) rfl rfl | exact hw.pick [0, 1, 2, 3, 4, 5, 8, 7, 6] (by decide) rfl rfl)
     ·refine AK.make1 (n := (trimD d).fin.length) sl23 el26 rfl rfl rfl (by omega) (by omega) trivial rfl (fun mv1 => ?_)
      first | refine AK.shape (v := mv1) 6 rfl (fun smv1 => ?_) | refine AK.shape (v := mv1) 7 rfl (fun smv1 => ?_) | refine AK.shape (v := mv1) 8 rfl (fun smv1 => ?_)
      refine .nil ?_
      try (conv => enter [2, 2]; dsimp only [List.set_cons_zero, List.set_cons_succ, List.cons_append, List.nil_append])
      refine HeldK.back hle ?_
      refine HeldK.one 4 (fuel := 2) (listed' := (lb 10 383)) krf rfl krf ?_
      refine AK.make1 (n := (trimD d).fin.length) sl22 el4 rfl rfl rfl (by omega) (by omega) trivial rfl (fun mv0 => ?_)
      first | refine AK.shape (v := mv0) 6 rfl (fun smv0 => ?_) | refine AK.shape (v := mv0) 7 rfl (fun smv0 => ?_) | refine AK.shape (v := mv0) 8 rfl (fun smv0 => ?_)
      refine .nil ?_
      try (conv => enter [2, 2]; dsimp only [List.set_cons_zero, List.set_cons_succ, List.cons_append, List.nil_append])
      refine HeldK.back hle ?_
      refine HeldK.first 7 (fuel := 1) (listed' := (lb 10 511)) _ rfl krf krf rfl (Yl.build (parts := [(0, .tmp 44), (1, .tmp 45), (2, .tmp 47), (3, .tmp 49)]) (cs := #[.int .i64 (trimD d).L, .int .i64 (k : Int), mv0, mv1]) rfl (by obtain ⟨_, _, _, rfl⟩ := smv0; obtain ⟨_, _, _, rfl⟩ := smv1; kernel_rfl)) trivial rfl ?_
      refine HeldK.one 9 (fuel := 0) (listed' := (lb 10 1023)) krf rfl krf ?_
      first | refine AK.storeBox 6 (us := [.int .i64 (trimD d).L, .int .i64 (k : Int), mv0, mv1]) (cs' := [.int .i64 (trimD d).L, .int .i64 (k : Int), mv0, mv1]) rfl sz25 rfl rfl rfl rfl oneP (Nat.le_of_ble_eq_true rfl) rfl trivial ?_ | refine AK.storeBox 7 (us := [.int .i64 (trimD d).L, .int .i64 (k : Int), mv0, mv1]) (cs' := [.int .i64 (trimD d).L, .int .i64 (k : Int), mv0, mv1]) rfl sz25 rfl rfl rfl rfl oneP (Nat.le_of_ble_eq_true rfl) rfl trivial ?_ | refine AK.storeBox 8 (us := [.int .i64 (trimD d).L, .int .i64 (k : Int), mv0, mv1]) (cs' := [.int .i64 (trimD d).L, .int .i64 (k : Int), mv0, mv1]) rfl sz25 rfl rfl rfl rfl oneP (Nat.le_of_ble_eq_true rfl) rfl trivial ?_
      refine .nil ?_
      try (conv => enter [2, 2]; dsimp only [List.set_cons_zero, List.set_cons_succ, List.cons_append, List.nil_append])
      refine HeldK.backN 10 krf rfl krf ?_
      refine .nil ?_
      refine AK.fromQn ?_
      exact hJ _ _ ((mv0, mv1, bx9)) ⟨smv0, smv1⟩ (slr) (fun w hw => by first | exact hw.pick [0, 1, 2, 3, 4, 5, 6, 7, 8] (by decide) rfl rfl | exact hw.pick [0, 1, 2, 3, 4, 5, 6, 8, 7] (by decide) rfl rfl | exact hw.pick [0, 1, 2, 3, 4, 5, 7, 6, 8] (by decide) rfl rfl | exact hw.pick [0, 1, 2, 3, 4, 5, 7, 8, 6] (by decide) rfl rfl | exact hw.pick [0, 1, 2, 3, 4, 5, 8, 6, 7] (by decide) rfl rfl | exact hw.pick [0, 1, 2, 3, 4, 5, 8, 7, 6] (by decide) rfl rfl)
   ·have smv0 := hg.1
    have smv1 := hg.2
    refine AK.then_ (hK9 _ ?_)
    refine .sr fun _ hK10 => ?_
    refine .as rfl (.nt hK10 ?_)
    refine .seq fun _ hK11 => ?_
    refine .sr fun _ hK12 => ?_
    refine .v (.fieldAddr fd25_2 rfl) ?_
    refine .v (.loadBox on22 rfl bsp rfl) ?_
    refine .v (.lenR sl22 rfl (by first | exact rdp | exact .big 3 _ rfl (matG_get htrs (by omega)))) ?_
    refine .mv rfl (.nt hK12 (.block ?_))
    refine AK.loopK (X := Nat × Value × List Value × List (List Int) × List Bool) [(5, _), (7, _), (8, _), (9, _), (53, _)] (fun x => [(10, x.2.1), (54, .int .i64 (x.1 : Int))]) (fun x => [box bx2 25 4 [.int .i64 d.L, .int .i64 d.s, vF, vN], row tF 4 1 (trimD d).fin.length ((trimD d).fin.map Value.bool), row tN 26 1 (trimD d).nx.length trs, bigA (matG (Value.int .i64) 3 trs (trimD d).nx), row tM 3 1 (numT d).length ((numT d).map (Value.int .i64)), box bx5 25 4 [.int .i64 (trimD d).L, .int .i64 (trimD d).s, tF, tN], row z.1 4 1 (trimD d).fin.length (x.2.2.2.2.map Value.bool), row z.2.1 26 1 (trimD d).fin.length x.2.2.1, bigA (matG (Value.int .i64) 3 x.2.2.1 x.2.2.2.1), box z.2.2 25 4 [.int .i64 (trimD d).L, .int .i64 (k : Int), z.1, z.2.1], row x.2.1 3 1 x.1 (((List.range x.1).map fun (q : Nat) => ((q : Int) + k) % ((trimD d).fin.length : Int)).map (Value.int .i64))]) (fun x => x.1 ≤ (trimD d).fin.length ∧ IsSl x.2.1 ∧ x.2.2.1.length = x.2.2.2.1.length ∧ Turn1 (trimD d) k x.1 x.2.2.2.2 x.2.2.2.1) (fun x => (trimD d).fin.length - x.1) ((0, .slice none 0 0, List.replicate (trimD d).fin.length (.slice none 0 0), List.replicate (trimD d).fin.length [], List.replicate (trimD d).fin.length false)) slr ?_ ?_ ?_ ?_
    ·exact ⟨Nat.zero_le _, nilSl, by simp, Turn1.init k⟩
    ·exact slr
    ·exact fun w hw => by dsimp only; rw [List.map_replicate]; exact ((hw.ghostMat 3 (trimD d).fin.length).ghost 3 1).pick [0, 1, 2, 3, 4, 5, 6, 7, 9, 8, 10] (by decide) rfl rfl
    ·intro x hg0 _ hK13
     refine .sr fun _ hK14 => ?_
     refine .v (.lss rfl rfl) ?_
     refine .nt hK14 ?_
     refine .seq fun _ hK15 => ?_
     refine AK.condD rfl (fun hc1 => ?_) (fun hc1 => ?_)
     ·have hrw := htv.row x.1 (by omega)
      have hto := htv.to x.1
      have hpl : ((x.1 + k) % (trimD d).fin.length) < (trimD d).fin.length := Nat.mod_lt _ (by omega)
      have hpi : ((x.1 : Int) + (k : Int)) % ((trimD d).fin.length : Int) = ((((x.1 + k) % (trimD d).fin.length) : Nat) : Int) := by rw [Int.natCast_emod, Int.natCast_add]
      have hFl := hg0.2.2.2.fl
      have hRl := hg0.2.2.2.rl
      have hRn := hg0.2.2.2.nil x.1 (Nat.le_refl _) (by omega)
      have hrsl : ((x.1 + k) % (trimD d).fin.length) < x.2.2.1.length := by rw [hg0.2.2.1, hRl]; exact hpl
      refine .skip ?_
      refine AK.then_ (hK15 _ ?_)
      refine .seq fun _ hK16 => ?_
      refine .block ?_
      refine .sr fun _ hK17 => ?_
      refine .mv rfl (.as rfl (.nt hK17 ?_))
      refine .sr fun _ hK18 => ?_
      refine .mv rfl (.mv rfl ?_)
      refine .v (.add rfl rfl (by omega)) ?_
      refine .mv rfl ?_
      refine AK.val (.int .i64 ((((x.1 + k) % (trimD d).fin.length) : Nat) : Int)) (Yl.valE (Yl.rem rfl rfl (by omega) (by omega)) (congrArg (Value.int .i64) hpi)) trivial rfl ?_
      refine .as rfl (.nt hK18 ?_)
      refine .sr fun _ hK19 => ?_
      refine .mv rfl (.mv rfl ?_)
      refine AK.append1 10 rfl sl26 el3 rfl (by decide) rfl (by intro k hk; cases hk; rfl) rfl (by intro u hu; simp [Value.cells] at hu; subst hu; rfl) (by omega) (by omega) (by decide) rfl rfl (fun wv2 _ hwv2 => ?_)
      refine .as rfl (.nt hK19 ?_)
      refine .seq fun _ hK20 => ?_
      refine AK.stillTail 9 mixed krf (fun _ hws => ?_)
      refine .v hws (.fieldAddr fd25_2 rfl) ?_
      refine .v hws (.loadBox on22 rfl bsp rfl) ?_
      refine .v hws (.move rfl) ?_
      refine .v hws (.fieldAddr fd25_2 rfl) ?_
      refine .v hws (.loadBox on22 rfl bsp rfl) ?_
      refine .v hws (.move rfl) ?_
      first | refine .v hws (.iN sl22 rfl rfl (hr := (by first | exact rdp | exact .big 3 _ rfl (matG_get htrs (by omega))))) ?_ | refine .v hws (.iK sl22 rfl rfl (hr := (by first | exact rdp | exact .big 3 _ rfl (matG_get htrs (by omega))))) ?_
      refine .v hws (.loadB on4 rfl (by first | exact rdp | exact .big 3 _ rfl (matG_get htrs (by omega))) (by omega)) ?_
      first | refine .v hws (.iN sl22 rfl rfl (hr := (by first | exact rdp | exact .big 3 _ rfl (matG_get htrs (by omega))))) ?_ | refine .v hws (.iK sl22 rfl rfl (hr := (by first | exact rdp | exact .big 3 _ rfl (matG_get htrs (by omega))))) ?_
      refine SK.nil (SK.fin hws ?_)
      refine AK.store1e 6 rfl sz4 rfl rfl rfl rfl (by omega) (cs' := ((x.2.2.2.2.set ((x.1 + k) % (trimD d).fin.length) ((trimD d).fin.getD x.1 false)).map Value.bool)) (by rw [List.map_set]) trivial ?_
      refine .nt hK20 ?_
      refine .sr fun _ hK21 => ?_
      refine AK.fact (p := IsSl (x.2.2.1.getD ((x.1 + k) % (trimD d).fin.length) undef)) (fun w hw => (HW.extract 8 ((x.1 + k) % (trimD d).fin.length) rfl (matG_get hg0.2.2.1 (by rw [hRl]; exact hpl)) hw).shape 11 rfl) (fun srv => ?_)
      refine .v (.fieldAddr fd25_3 rfl) ?_
      refine .v (.loadBox on23 rfl bsp rfl) ?_
      refine .mv rfl ?_
      first | refine .v (.iN sl23 rfl rfl (hr := (by first | exact rdp | exact .big 3 _ rfl (matG_get htrs (by omega))))) ?_ | refine .v (.iK sl23 rfl rfl (hr := (by first | exact rdp | exact .big 3 _ rfl (matG_get htrs (by omega))))) ?_
      refine .v (.loadV on26 rfl (by first | exact rdp | exact .big 3 _ rfl (matG_get htrs (by omega))) (by omega)) ?_
      refine .v (.lenR sl26 rfl (by first | exact rdp | exact .big 3 _ rfl (matG_get htrs (by omega)))) ?_
      refine .mv rfl (.nt hK21 (.block ?_))
      refine AK.loopK (X := Nat × Value × List Int) [(5, _), (7, _), (8, _), (9, _), (10, _), (12, _), (53, _), (54, _), (79, _), (80, _)] (fun u => [(81, .int .i64 (u.1 : Int))]) (fun u => [box bx2 25 4 [.int .i64 d.L, .int .i64 d.s, vF, vN], row tF 4 1 (trimD d).fin.length ((trimD d).fin.map Value.bool), row tN 26 1 (trimD d).nx.length trs, bigA (matG (Value.int .i64) 3 trs (trimD d).nx), row tM 3 1 (numT d).length ((numT d).map (Value.int .i64)), box bx5 25 4 [.int .i64 (trimD d).L, .int .i64 (trimD d).s, tF, tN], row z.1 4 1 (trimD d).fin.length ((x.2.2.2.2.set ((x.1 + k) % (trimD d).fin.length) ((trimD d).fin.getD x.1 false)).map Value.bool), row z.2.1 26 1 (trimD d).fin.length (x.2.2.1.set ((x.1 + k) % (trimD d).fin.length) u.2.1), bigA ((matG (Value.int .i64) 3 x.2.2.1 x.2.2.2.1).set ((x.1 + k) % (trimD d).fin.length) empA), box z.2.2 25 4 [.int .i64 (trimD d).L, .int .i64 (k : Int), z.1, z.2.1], row wv2 3 1 (x.1 + 1) (((List.range (x.1 + 1)).map fun (q : Nat) => ((q : Int) + k) % ((trimD d).fin.length : Int)).map (Value.int .i64)), row u.2.1 3 1 u.2.2.length (u.2.2.map (Value.int .i64))]) (fun u => u.1 ≤ ((trimD d).nx.getD x.1 []).length ∧ IsSl u.2.1 ∧ u.2.2.length = u.1 ∧ ∀ t, t < u.2.2.length → u.2.2.getD t 0 = ((((trimD d).nx.getD x.1 []).getD t 0) + (k : Int)) % ((trimD d).fin.length : Int)) (fun u => ((trimD d).nx.getD x.1 []).length - u.1) ((0, x.2.2.1.getD ((x.1 + k) % (trimD d).fin.length) undef, [])) slr ?_ ?_ ?_ ?_
      ·exact ⟨Nat.zero_le _, srv, rfl, fun t ht => by cases ht⟩
      ·exact slr
      ·exact fun w hw => by dsimp only; rw [set_getD_self hrsl, want_snoc, List.map_append]; rw [← hpi] at hw; have h := hw.extract 8 ((x.1 + k) % (trimD d).fin.length) rfl (matG_get hg0.2.2.1 (by rw [hRl]; exact hpl)); rw [hRn] at h; exact h
      ·intro u hg1 _ hK22
       refine .sr fun _ hK23 => ?_
       refine .v (.lss rfl rfl) ?_
       refine .nt hK23 ?_
       refine .seq fun _ hK24 => ?_
       refine AK.condD rfl (fun hc2 => ?_) (fun hc2 => ?_)
       ·have hto2 := hto u.1 (by omega) (by omega)
        have hul := hg1.2.2.1
        have hsu := hg1.2.1
        have hm1 := Int.emod_nonneg (((trimD d).nx.getD x.1 []).getD u.1 0 + (k : Int)) (b := ((trimD d).fin.length : Int)) (by omega)
        have hm2 := Int.emod_lt_of_pos (((trimD d).nx.getD x.1 []).getD u.1 0 + (k : Int)) (b := ((trimD d).fin.length : Int)) (by omega)
        refine .skip ?_
        refine AK.then_ (hK24 _ ?_)
        refine .seq fun _ hK25 => ?_
        refine .block ?_
        refine .sr fun _ hK26 => ?_
        first | refine .v (.iN sl26 rfl rfl (hr := (by first | exact rdp | exact .big 3 _ rfl (matG_get htrs (by omega))))) ?_ | refine .v (.iK sl26 rfl rfl (hr := (by first | exact rdp | exact .big 3 _ rfl (matG_get htrs (by omega))))) ?_
        refine .v (.loadI on3 rfl (by first | exact rdp | exact .big 3 _ rfl (matG_get htrs (by omega))) (by omega)) ?_
        refine .as rfl (.nt hK26 ?_)
        try (conv => enter [2, 2]; dsimp only [List.set_cons_zero, List.set_cons_succ, List.cons_append, List.nil_append])
        refine AK.held 16 mixed ?_
        refine HeldK.first 0 (fuel := 16) (listed' := (lb 17 1)) _ rfl krf krf rfl (Yl.fieldAddr fd25_3 rfl) trivial rfl ?_
        refine HeldK.first 1 (fuel := 15) (listed' := (lb 17 3)) _ rfl krf krf rfl (Yl.loadBox on23 rfl bsp rfl) trivial rfl ?_
        refine HeldK.first 2 (fuel := 14) (listed' := (lb 17 7)) _ rfl krf krf rfl (Yl.move rfl) trivial rfl ?_
        refine HeldK.first 3 (fuel := 13) (listed' := (lb 17 15)) _ rfl krf krf rfl (Yl.fieldAddr fd25_3 rfl) trivial rfl ?_
        refine HeldK.first 4 (fuel := 12) (listed' := (lb 17 31)) _ rfl krf krf rfl (Yl.loadBox on23 rfl bsp rfl) trivial rfl ?_
        refine HeldK.first 5 (fuel := 11) (listed' := (lb 17 63)) _ rfl krf krf rfl (Yl.move rfl) trivial rfl ?_
        first | refine HeldK.first 6 (fuel := 10) (listed' := (lb 17 127)) _ rfl krf krf rfl (.iN sl23 rfl rfl (hr := (by first | exact rdp | exact .big 3 _ rfl (matG_get htrs (by omega))))) trivial rfl ?_ | refine HeldK.first 6 (fuel := 10) (listed' := (lb 17 127)) _ rfl krf krf rfl (.iK sl23 rfl rfl (hr := (by first | exact rdp | exact .big 3 _ rfl (matG_get htrs (by omega))))) trivial rfl ?_
        refine HeldK.first 7 (fuel := 9) (listed' := (lb 17 255)) _ rfl krf krf rfl (Yl.valE (Yl.loadV on26 rfl rdp (by rw [List.length_set]; omega)) (Pt.getD_setEq hrsl : (x.2.2.1.set ((x.1 + k) % (trimD d).fin.length) u.2.1).getD ((x.1 + k) % (trimD d).fin.length) undef = u.2.1)) trivial rfl ?_
        refine HeldK.first 8 (fuel := 8) (listed' := (lb 17 511)) _ rfl krf krf rfl (Yl.move rfl) trivial rfl ?_
        refine HeldK.first 9 (fuel := 7) (listed' := (lb 17 1023)) _ rfl krf krf rfl (Yl.move rfl) trivial rfl ?_
        refine HeldK.first 10 (fuel := 6) (listed' := (lb 17 2047)) _ rfl krf krf rfl (Yl.add rfl rfl (by omega)) trivial rfl ?_
        refine HeldK.first 11 (fuel := 5) (listed' := (lb 17 4095)) _ rfl krf krf rfl (Yl.move rfl) trivial rfl ?_
        refine HeldK.first 12 (fuel := 4) (listed' := (lb 17 8191)) _ rfl krf krf rfl (Yl.rem rfl rfl (by omega) (by omega)) trivial rfl ?_
        refine HeldK.one 13 (fuel := 3) (listed' := (lb 17 16383)) krf rfl krf ?_
        refine AK.lit (xs := [.tmp 97]) sl26 el3 rfl rfl rfl (by intro a ha; simp at ha; subst ha; rfl) (by decide) (by decide) trivial rfl (fun lt => ?_)
        refine .nil ?_
        try (conv => enter [2, 2]; dsimp only [List.set_cons_zero, List.set_cons_succ, List.cons_append, List.nil_append])
        refine HeldK.back hle ?_
        refine HeldK.one 14 (fuel := 2) (listed' := (lb 17 32767)) krf rfl krf ?_
        refine AK.appendH 11 rfl sl26 el3 rfl (by decide) rfl rfl rfl (by first | exact rdp | exact .big 3 _ rfl (matG_get htrs (by omega))) oneP (by omega) (by omega) trivial rfl (fun va hva => ?_)
        refine .nil ?_
        try (conv => enter [2, 2]; dsimp only [List.set_cons_zero, List.set_cons_succ, List.cons_append, List.nil_append])
        refine HeldK.back hle ?_
        first | refine HeldK.first 15 (fuel := 1) (listed' := (lb 17 65535)) _ rfl krf krf rfl (.iN sl23 rfl rfl (hr := (by first | exact rdp | exact .big 3 _ rfl (matG_get htrs (by omega))))) trivial rfl ?_ | refine HeldK.first 15 (fuel := 1) (listed' := (lb 17 65535)) _ rfl krf krf rfl (.iK sl23 rfl rfl (hr := (by first | exact rdp | exact .big 3 _ rfl (matG_get htrs (by omega))))) trivial rfl ?_
        refine HeldK.one 16 (fuel := 0) (listed' := (lb 17 131071)) krf rfl krf ?_
        refine AK.store1e 7 rfl sz26 rfl rfl hva.cells hva.one (by omega) (cs' := (x.2.2.1.set ((x.1 + k) % (trimD d).fin.length) va)) (by rw [List.set_set]) trivial ?_
        refine .nil ?_
        try (conv => enter [2, 2]; dsimp only [List.set_cons_zero, List.set_cons_succ, List.cons_append, List.nil_append])
        refine HeldK.backN 17 krf rfl krf ?_
        refine .nil ?_
        refine AK.fromQn ?_
        refine .block_normal ?_
        refine AK.then_ (hK25 _ ?_)
        refine AK.region ?_
        refine .v (.add rfl rfl (by omega)) ?_
        refine .mv rfl (.nil ?_)
        refine AK.then_ (hK22 _ _ ((u.1 + 1, va, u.2.2 ++ [((((trimD d).nx.getD x.1 []).getD u.1 0 + (k : Int)) % ((trimD d).fin.length : Int))])) ⟨by dsimp only; omega, hva, by dsimp only; rw [List.length_append, hul]; rfl, snoc_allP (P := fun t y => y = ((((trimD d).nx.getD x.1 []).getD t 0) + (k : Int)) % ((trimD d).fin.length : Int)) hg1.2.2.2 (by rw [hul])⟩ (by dsimp only; omega) (slr) (fun w hw => by dsimp only; rw [List.length_append, List.map_append]; exact hw.pickLe [0, 1, 2, 3, 4, 5, 6, 7, 8, 9, 10, 11] (by decide) pkl))
       ·refine .exit (.then_exit (.then_exit (.block_exit (.block_normal ?_))))
        refine AK.then_ (hK16 _ ?_)
        refine AK.region ?_
        refine .v (.add rfl rfl (by omega)) ?_
        refine .mv rfl (.nil ?_)
        refine AK.then_ (hK13 _ _ ((x.1 + 1, wv2, x.2.2.1.set ((x.1 + k) % (trimD d).fin.length) u.2.1, x.2.2.2.1.set ((x.1 + k) % (trimD d).fin.length) u.2.2, x.2.2.2.2.set ((x.1 + k) % (trimD d).fin.length) ((trimD d).fin.getD x.1 false))) ⟨by dsimp only; omega, hwv2, by dsimp only; rw [List.length_set, List.length_set]; exact hg0.2.2.1, hg0.2.2.2.step hk (by omega) (by omega) hg1.2.2.2⟩ (by dsimp only; omega) (slr) (fun w hw => by dsimp only; rw [← matG_setI hg0.2.2.1 (by rw [hRl]; exact hpl)]; exact (HW.putback (own := [_, _, _, _, _, _, _, _, empA, _, _]) (l := matG (Value.int .i64) 3 x.2.2.1 x.2.2.2.1) 8 ((x.1 + k) % (trimD d).fin.length) (show 8 < 11 by decide) (by rw [matG_length hg0.2.2.1, hRl]; exact hpl) hw)))
     ·have hx : x.1 = (trimD d).fin.length := by omega
      have hT := hg0.2.2.2
      have hFl := hT.fl
      have hRl := hT.rl
      rw [hx] at hT
      obtain ⟨e1, e2, e3⟩ := hT.iso hv hk
      refine .exit (.then_exit (.then_exit (.block_exit ?_)))
      refine AK.then_ (hK11 _ ?_)
      refine .sr fun _ hK27 => ?_
      refine .v (.loadBoxG ag25 rfl bsp rfl rfl) ?_
      refine .v (.loadBoxG ag25 rfl bsp rfl rfl) ?_
      refine AK.call co23 rfl (fun w hw => s_iso w _ _ (trimD d) (⟨(trimD d).L, (k : Int), x.2.2.2.2, x.2.2.2.1⟩ : Dfa) (RdD.own 1 hw htrs rfl rfl rfl) (RdD.own (d := (⟨(trimD d).L, (k : Int), x.2.2.2.2, x.2.2.2.1⟩ : Dfa)) 6 hw hg0.2.2.1 (congrArg some (congrArg (fun n => row z.1 4 1 n (x.2.2.2.2.map Value.bool)) hFl.symm)) (congrArg some (congrArg (fun n => row z.2.1 26 1 n x.2.2.1) hRl.symm)) rfl)) trivial rfl ?_
      rintro r o ⟨fv, rfl, sfv, rfl⟩
      rw [e1, e2, e3]
      refine .mv rfl ?_
      refine .v (.extract rfl rfl) ?_
      refine .v (.extract rfl rfl) ?_
      refine .v (.extract rfl rfl) ?_
      refine .as rfl (.as rfl (.as rfl (.nt hK27 ?_)))
      refine .sr fun _ hK28 => ?_
      refine .mv rfl ?_
      refine .v (.eql rfl rfl) ?_
      refine .mv rfl ?_
      refine AK.knownT (g := 112) rfl (decide_eq_true rfl) (fun hg_21_2 => ?_)
      refine AK.val _ (Yl.move rfl) ⟨_, rfl, congrArg (fun b => some (Value.bool b)) hg_21_2⟩ rfl ?_
      refine .v (.pickT rfl (hg_21_2) rfl) ?_
      refine .mv rfl ?_
      refine AK.knownT (g := 115) rfl (rfl) (fun hg_21_5 => ?_)
      refine AK.val _ (Yl.move rfl) ⟨_, rfl, congrArg (fun b => some (Value.bool b)) hg_21_5⟩ rfl ?_
      refine AK.val _ (Yl.move rfl) ⟨_, rfl, congrArg (fun b => some (Value.bool b)) hg_21_5⟩ rfl ?_
      refine AK.call co17 rfl (fun w hw => s_same w fv x.2.1 ((List.range (trimD d).fin.length).map fun (q : Nat) => ((q : Int) + k) % ((trimD d).fin.length : Int)) ((List.range (trimD d).fin.length).map fun (q : Nat) => ((q : Int) + k) % ((trimD d).fin.length : Int)) (RdL.own 11 hw rfl) (RdL.ownE 10 hw rfl (by simp; omega) (by rw [hx])) (by simp; omega)) ⟨_, rfl, congrArg (fun b => some (Value.bool b)) hg_21_5⟩ rfl ?_
      rintro r o ⟨rfl, rfl⟩
      refine .v (.pickT rfl (hg_21_5) rfl) ?_
      refine .mv rfl ?_
      refine AK.knownT (g := 120) rfl (decide_eq_true rfl) (fun hg_21_10 => ?_)
      refine AK.call co15 rfl (fun w hw => s_awake w) ⟨_, rfl, congrArg (fun b => some (Value.bool b)) hg_21_10⟩ rfl ?_
      rintro r o ⟨rfl, rfl⟩
      refine .v (.pickT rfl (hg_21_10) rfl) ?_
      refine .as rfl (.nt hK28 (.ret ?_))
      refine AK.ret1 rfl rfl (fun w hw => ⟨_, _, ?_, rfl, Ret.of (hw.pick [] (by decide) rfl rfl)⟩)
      exact ⟨rfl, rfl⟩

end Go.Proofs.Ytifnofnnjcchhaa
