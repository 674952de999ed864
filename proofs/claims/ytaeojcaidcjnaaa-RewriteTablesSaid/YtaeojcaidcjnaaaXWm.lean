import Derived.Test.YtaeojcaidcjnaaaXWl
import Derived.Test.YtaeojcaidcjnaaaXWe
import Derived.Test.YtaeojcaidcjnaaaXRR
import Derived.Test.YtaeojcaidcjnaaaXDp
set_option linter.unusedVariables false
set_option linter.unusedSimpArgs false
namespace Go.Proofs.Ytaeojcaidcjnaaa
open Go.Sx Go.RowKit
set_option maxRecDepth 100000 in
theorem s_sameS (w : World) (u v : Value) (xs ys : List (List UInt8)) (hu : RdL (fun _ => False) sv w u xs) (hv : RdL (fun _ => False) sv w v ys) : CallS Try.prog 34 [u, v] w (fun r o => r = .bool (decide (xs = ys)) ∧ o = []) := by
 have hb := hu.le
 unfold RdL at hu hv
 refine spec_of Try.func34 rfl (Nat.le_of_ble_eq_true rfl) ?_
 refine .sr fun _ hK1 => ?_
 refine .as rfl (.nt hK1 ?_)
 refine .seq fun _ hK2 => ?_
 refine .sr fun _ hK3 => ?_
 refine .mv rfl ?_
 refine .v (.lenR sl53 rfl rdp) ?_
 refine .mv rfl ?_
 refine .v (.lenR sl53 rfl rdp) ?_
 refine .v (.neq rfl rfl) ?_
 refine .nt hK3 ?_
 refine AK.condNe rfl (fun hc0 => ?_) (fun hc0 => ?_)
 ·refine .sr fun _ hK4 => ?_
  refine .as rfl (.nt hK4 (.ret (.then_ret ?_)))
  refine AK.ret1 rfl rfl (fun w hw => ⟨_, _, ?_, rfl, Ret.of (hw.pick [] (by decide) rfl rfl)⟩)
  exact ⟨by simp; intro e; subst e; omega, rfl⟩
 ·refine .skip ?_
  refine AK.then_ (hK2 _ ?_)
  refine .seq fun _ hK5 => ?_
  refine .sr fun _ hK6 => ?_
  refine .mv rfl ?_
  refine .v (.lenR sl53 rfl rdp) ?_
  refine .mv rfl (.nt hK6 (.block ?_))
  refine AK.loopK (X := Nat) [(0, _), (1, _), (12, _)] (fun k => [(13, .int .i64 (k : Int))]) (fun k => []) (fun k => k ≤ xs.length ∧ xs.length = ys.length ∧ xs.take k = ys.take k) (fun k => xs.length - k) (0) slr ?_ ?_ ?_ ?_
  ·exact ⟨Nat.zero_le _, by omega, by simp⟩
  ·exact slr
  ·exact fun w hw => hw
  ·intro k hg0 _ hK7
   obtain ⟨hk, hl, ht⟩ := hg0
   refine .sr fun _ hK8 => ?_
   refine .v (.lss rfl rfl) ?_
   refine .nt hK8 ?_
   refine .seq fun _ hK9 => ?_
   refine AK.condD rfl (fun hc1 => ?_) (fun hc1 => ?_)
   ·refine .skip ?_
    refine AK.then_ (hK9 _ ?_)
    refine .seq fun _ hK10 => ?_
    refine .block ?_
    refine .sr fun _ hK11 => ?_
    refine .mv rfl (.as rfl (.nt hK11 ?_))
    refine .seq fun _ hK12 => ?_
    refine AK.quiet mixed krf ?_
    refine .mv rfl (.mv rfl ?_)
    first | refine .v (.iN sl53 rfl rfl) ?_ | refine .v (.iK sl53 rfl rfl) ?_
    refine .v (.loadS on9 rfl rdp (by omega)) ?_
    refine .mv rfl (.mv rfl ?_)
    first | refine .v (.iN sl53 rfl rfl) ?_ | refine .v (.iK sl53 rfl rfl) ?_
    refine .v (.loadS on9 rfl rdp (by omega)) ?_
    refine .v (.neqS un9 rfl rfl) ?_
    refine QK.nil (QK.fin ?_)
    refine AK.then_ (hK12 _ ?_)
    refine AK.condNe rfl (fun hc2 => ?_) (fun hc2 => ?_)
    ·refine .sr fun _ hK13 => ?_
     refine .as rfl (.nt hK13 (.ret (.block_ret (.then_ret (.then_ret (.block_ret (.then_ret ?_)))))))
     refine AK.ret1 rfl rfl (fun w hw => ⟨_, _, ?_, rfl, Ret.of (hw.pick [] (by decide) rfl rfl)⟩)
     exact ⟨by simp; intro e; subst e; simp at *, rfl⟩
    ·refine .skip (.block_normal ?_)
     refine AK.then_ (hK10 _ ?_)
     refine AK.region ?_
     refine .v (.add rfl rfl (by omega)) ?_
     refine .mv rfl (.nil ?_)
     refine AK.then_ (hK7 _ _ (k + 1) ⟨by omega, by omega, (beq_takeD [] hl k (by omega) ht).2 (by assumption)⟩ (by omega) (slr) (fun w hw => hw))
   ·refine .exit (.then_exit (.then_exit (.block_exit ?_)))
    refine AK.then_ (hK5 _ ?_)
    refine .sr fun _ hK14 => ?_
    refine .as rfl (.nt hK14 (.ret ?_))
    refine AK.ret1 rfl rfl (fun w hw => ⟨_, _, ?_, rfl, Ret.of (hw.pick [] (by decide) rfl rfl)⟩)
    have : k = xs.length := by omega
    subst this
    exact ⟨by simp; rw [List.take_length, hl, List.take_length] at ht; exact ht, rfl⟩

set_option maxRecDepth 100000 in
theorem s_samerows (w : World) (u v : Value) (xss yss : List (List Int)) (hu : RdM w u xss) (hv : RdM w v yss) : CallS Try.prog 33 [u, v] w (fun r o => r = .bool (decide (xss = yss)) ∧ o = []) := by
 obtain ⟨us, hul, hu1, hu2⟩ := hu
 obtain ⟨vs, hvl, hv1, hv2⟩ := hv
 have hmx := Rd.le hu1
 have hmy := Rd.le hv1
 refine spec_of Try.func33 rfl (Nat.le_of_ble_eq_true rfl) ?_
 refine .sr fun _ hK1 => ?_
 refine .as rfl (.nt hK1 ?_)
 refine .seq fun _ hK2 => ?_
 refine .sr fun _ hK3 => ?_
 refine .mv rfl ?_
 refine .v (.lenR sl34 rfl rdp) ?_
 refine .mv rfl ?_
 refine .v (.lenR sl34 rfl rdp) ?_
 refine .v (.neq rfl rfl) ?_
 refine .nt hK3 ?_
 refine AK.condNe rfl (fun hc0 => ?_) (fun hc0 => ?_)
 ·refine .sr fun _ hK4 => ?_
  refine .as rfl (.nt hK4 (.ret (.then_ret ?_)))
  refine AK.ret1 rfl rfl (fun w hw => ⟨_, _, ?_, rfl, Ret.of (hw.pick [] (by decide) rfl rfl)⟩)
  exact ⟨by simp; intro e; subst e; omega, rfl⟩
 ·refine .skip ?_
  refine AK.then_ (hK2 _ ?_)
  refine .seq fun _ hK5 => ?_
  refine .sr fun _ hK6 => ?_
  refine .mv rfl ?_
  refine .v (.lenR sl34 rfl rdp) ?_
  refine .mv rfl (.nt hK6 (.block ?_))
  refine AK.loopK (X := Nat) [(0, _), (1, _), (12, _)] (fun k => [(13, .int .i64 (k : Int))]) (fun k => []) (fun k => k ≤ xss.length ∧ xss.length = yss.length ∧ xss.take k = yss.take k) (fun k => xss.length - k) (0) slr ?_ ?_ ?_ ?_
  ·exact ⟨Nat.zero_le _, by omega, by simp⟩
  ·exact slr
  ·exact fun w hw => hw
  ·intro k hg0 _ hK7
   obtain ⟨hk, hl, ht⟩ := hg0
   refine .sr fun _ hK8 => ?_
   refine .v (.lss rfl rfl) ?_
   refine .nt hK8 ?_
   refine .seq fun _ hK9 => ?_
   refine AK.condD rfl (fun hc1 => ?_) (fun hc1 => ?_)
   ·refine .skip ?_
    refine AK.then_ (hK9 _ ?_)
    refine .seq fun _ hK10 => ?_
    refine .block ?_
    refine .sr fun _ hK11 => ?_
    refine .mv rfl (.as rfl (.nt hK11 ?_))
    refine .seq fun _ hK12 => ?_
    refine AK.quiet mixed krf ?_
    refine .mv rfl (.mv rfl ?_)
    first | refine .v (.iN sl34 rfl rfl) ?_ | refine .v (.iK sl34 rfl rfl) ?_
    refine .v (.loadV on74 rfl rdp (by omega)) ?_
    refine .mv rfl (.mv rfl ?_)
    first | refine .v (.iN sl34 rfl rfl) ?_ | refine .v (.iK sl34 rfl rfl) ?_
    refine .v (.loadV on74 rfl rdp (by omega)) ?_
    refine QK.call (.bool (decide (xss.getD k [] = yss.getD k []))) co50 rfl (fun w hw => s_same w (us.getD k undef) (vs.getD k undef) (xss.getD k []) (yss.getD k []) (RdI.at (hu2 k (by omega)) hw) (RdI.at (hv2 k (by omega)) hw) (Rd.le (hu2 k (by omega)))) (fun _ _ h => h.1) trivial rfl ?_
    refine .v (.not rfl) ?_
    refine QK.nil (QK.fin ?_)
    refine AK.then_ (hK12 _ ?_)
    refine AK.condB rfl (fun hc2 => ?_) (fun hc2 => ?_)
    ·refine .sr fun _ hK13 => ?_
     refine .as rfl (.nt hK13 (.ret (.block_ret (.then_ret (.then_ret (.block_ret (.then_ret ?_)))))))
     refine AK.ret1 rfl rfl (fun w hw => ⟨_, _, ?_, rfl, Ret.of (hw.pick [] (by decide) rfl rfl)⟩)
     exact ⟨by simp; intro e; subst e; simp at *, rfl⟩
    ·refine .skip (.block_normal ?_)
     refine AK.then_ (hK10 _ ?_)
     refine AK.region ?_
     refine .v (.add rfl rfl (by omega)) ?_
     refine .mv rfl (.nil ?_)
     refine AK.then_ (hK7 _ _ (k + 1) ⟨by omega, by omega, (beq_takeD [] hl k (by omega) ht).2 (of_decide_eq_true hc2)⟩ (by omega) (slr) (fun w hw => hw))
   ·refine .exit (.then_exit (.then_exit (.block_exit ?_)))
    refine AK.then_ (hK5 _ ?_)
    refine .sr fun _ hK14 => ?_
    refine .as rfl (.nt hK14 (.ret ?_))
    refine AK.ret1 rfl rfl (fun w hw => ⟨_, _, ?_, rfl, Ret.of (hw.pick [] (by decide) rfl rfl)⟩)
    have : k = xss.length := by omega
    subst this
    exact ⟨by simp; rw [List.take_length, hl, List.take_length] at ht; exact ht, rfl⟩

set_option maxHeartbeats 1000000 in
set_option maxRecDepth 100000 in
theorem s_live (w : World) (v : Value) (d : Dfa) (h : RdD (fun _ => False) w v d) (hv : VD d) : CallS Try.prog 65 [v] w (fun r o => ∃ l : List Bool, l.length = d.fin.length ∧ (∀ q, InR d q → (l.getD q.toNat false = true ↔ Liv d q)) ∧ IsSl r ∧ o = [row r 4 1 d.fin.length (l.map Value.bool)]) := by
 have h0 := h
 obtain ⟨vF, vN, rfl, hF, hN⟩ := h
 have hF0 := hF
 have hN0 := hN
 obtain ⟨rs, hrl, hNr, hNi⟩ := hN
 have sF := hF.sl
 have sN := hNr.sl
 have hmf := hF.le
 have hmn := hNr.le
 unfold RdL at hF
 have hnx := hv.nx
 have hn5 := hv.n
 have hL := hv.L
 have hvr := hv.row
 have hvt := hv.to
 refine spec_of Try.func65 rfl (Nat.le_of_ble_eq_true rfl) ?_
 refine .sr fun _ hK1 => ?_
 refine AK.box_ (E := 36) (cs := [.int .i64 d.L, .int .i64 d.s, vF, vN]) rfl rfl rfl trivial rfl (fun bx1 => ?_)
 refine .as rfl (.nt hK1 ?_)
 refine .sr fun _ hK2 => ?_
 refine AK.lit (xs := []) sl33 el4 rfl rfl rfl (by intro a ha; cases ha) (by decide) (by decide) trivial rfl (fun lv => ?_)
 refine .v (.fieldAddr fd36_2 rfl) ?_
 refine .v (.loadBox on33 rfl bsp rfl) ?_
 refine AK.appendS 1 rfl sl33 el4 rfl (by decide) rfl rfl rfl (by first | exact rdp | exact .arg (hNi _ (by omega))) (one'_map _ (fun _ => rfl) d.fin) (by omega) (by omega) trivial rfl (fun av => ?_)
 refine AK.shape 1 rfl (fun hav => ?_)
 refine .as rfl (.nt hK2 ?_)
 refine .seq fun _ hK3 => ?_
 refine .sr fun _ hK4 => ?_
 refine .mv rfl ?_
 refine .v (.lenR sl33 rfl (by first | exact rdp | exact .arg (hNi _ (by omega)))) ?_
 refine .mv rfl (.nt hK4 (.block ?_))
 refine AK.loopK (X := Nat × List Bool) [(1, _), (3, _), (13, _)] (fun x => [(14, .int .i64 (x.1 : Int))]) (fun x => [box bx1 36 4 [.int .i64 d.L, .int .i64 d.s, vF, vN], row av 4 1 d.fin.length (x.2.map Value.bool)]) (fun x => x.1 ≤ d.fin.length ∧ LG1 d x.1 0 x.2) (fun x => d.fin.length - x.1) ((0, d.fin)) slr ?_ ?_ ?_ ?_
 ·exact ⟨Nat.zero_le _, LG1.zero d⟩
 ·exact slr
 ·exact fun w hw => by simpa using hw
 ·intro x hg0 _ hK5
  have hl0 := hg0.2.len
  refine .sr fun _ hK6 => ?_
  refine .v (.lss rfl rfl) ?_
  refine .nt hK6 ?_
  refine .seq fun _ hK7 => ?_
  refine AK.condD rfl (fun hc0 => ?_) (fun hc0 => ?_)
  ·refine .skip ?_
   refine AK.then_ (hK7 _ ?_)
   refine .seq fun _ hK8 => ?_
   refine .block ?_
   refine .sr fun _ hK9 => ?_
   refine .mv rfl (.as rfl (.nt hK9 ?_))
   refine .sr fun _ hK10 => ?_
   refine .mv rfl (.nt hK10 ?_)
   refine .sr fun _ hK11 => ?_
   refine .mv rfl ?_
   refine .v (.lenR sl33 rfl (by first | exact rdp | exact .arg (hNi _ (by omega)))) ?_
   refine .mv rfl (.nt hK11 (.block ?_))
   refine AK.loopK (X := Nat × List Bool) [(1, _), (3, _), (13, _), (14, _), (19, _)] (fun y => [(20, .int .i64 (y.1 : Int))]) (fun y => [box bx1 36 4 [.int .i64 d.L, .int .i64 d.s, vF, vN], row av 4 1 d.fin.length (y.2.map Value.bool)]) (fun y => y.1 ≤ d.fin.length ∧ LG1 d x.1 y.1 y.2) (fun y => d.fin.length - y.1) ((0, x.2)) slr ?_ ?_ ?_ ?_
   ·exact ⟨Nat.zero_le _, hg0.2⟩
   ·exact slr
   ·exact fun w hw => hw
   ·intro y hg1 _ hK12
    have hl1 := hg1.2.len
    refine .sr fun _ hK13 => ?_
    refine .v (.lss rfl rfl) ?_
    refine .nt hK13 ?_
    refine .seq fun _ hK14 => ?_
    refine AK.condD rfl (fun hc1 => ?_) (fun hc1 => ?_)
    ·refine .skip ?_
     refine AK.then_ (hK14 _ ?_)
     refine .seq fun _ hK15 => ?_
     refine .block ?_
     refine .sr fun _ hK16 => ?_
     refine .mv rfl (.as rfl (.nt hK16 ?_))
     refine .sr fun _ hK17 => ?_
     refine .v (.fieldAddr fd36_3 rfl) ?_
     refine .v (.loadBox on34 rfl bsp rfl) ?_
     refine .mv rfl ?_
     first | refine .v (.iN sl34 rfl rfl (hr := (by first | exact rdp | exact .arg (hNi _ (by omega))))) ?_ | refine .v (.iK sl34 rfl rfl (hr := (by first | exact rdp | exact .arg (hNi _ (by omega))))) ?_
     refine .v (.loadV on74 rfl (by first | exact rdp | exact .arg (hNi _ (by omega))) (by omega)) ?_
     refine .v (.lenR sl74 rfl (by first | exact rdp | exact .arg (hNi _ (by omega)))) ?_
     refine .mv rfl (.nt hK17 (.block ?_))
     refine AK.loopK (X := Nat × List Bool) [(1, _), (3, _), (5, _), (13, _), (14, _), (19, _), (20, _), (27, _), (28, _)] (fun z => [(29, .int .i64 (z.1 : Int))]) (fun z => [box bx1 36 4 [.int .i64 d.L, .int .i64 d.s, vF, vN], row av 4 1 d.fin.length (z.2.map Value.bool)]) (fun z => z.1 ≤ (d.nx.getD y.1 []).length ∧ LG2 d x.1 y.1 z.1 z.2) (fun z => (d.nx.getD y.1 []).length - z.1) ((0, y.2)) slr ?_ ?_ ?_ ?_
     ·exact ⟨Nat.zero_le _, hg1.2.in_⟩
     ·exact slr
     ·exact fun w hw => hw
     ·intro z hg2 _ hK18
      have hl2 := hg2.2.len
      have hrw := hvr y.1 (by omega)
      refine .sr fun _ hK19 => ?_
      refine .v (.lss rfl rfl) ?_
      refine .nt hK19 ?_
      refine .seq fun _ hK20 => ?_
      refine AK.condD rfl (fun hc2 => ?_) (fun hc2 => ?_)
      ·have hto := hvt y.1 z.1 (by omega) (by omega)
       refine .skip ?_
       refine AK.then_ (hK20 _ ?_)
       refine .seq fun _ hK21 => ?_
       refine .block ?_
       refine .sr fun _ hK22 => ?_
       first | refine .v (.iN sl74 rfl rfl (hr := (by first | exact rdp | exact .arg (hNi _ (by omega))))) ?_ | refine .v (.iK sl74 rfl rfl (hr := (by first | exact rdp | exact .arg (hNi _ (by omega))))) ?_
       refine .v (.loadI on3 rfl (by first | exact rdp | exact .arg (hNi _ (by omega))) (by omega)) ?_
       refine .as rfl (.nt hK22 ?_)
       refine AK.region ?_
       refine .mv rfl (.mv rfl (.mv rfl (.mv rfl ?_)))
       first | refine .v (.iN sl33 rfl rfl (hr := (by first | exact rdp | exact .arg (hNi _ (by omega))))) ?_ | refine .v (.iK sl33 rfl rfl (hr := (by first | exact rdp | exact .arg (hNi _ (by omega))))) ?_
       refine .v (.loadB on4 rfl (by first | exact rdp | exact .arg (hNi _ (by omega))) (by omega)) ?_
       refine .mv rfl ?_
       refine AK.splitB (g := 39) rfl (fun hg_12_6 => ?_) (fun hg_12_6 => ?_)
       ·have hg_12_6' := hg_12_6
        try simp only [bs] at hg_12_6'
        refine AK.pass rfl rfl (hg_12_6) rfl ?_
        refine AK.pass rfl rfl (hg_12_6) rfl ?_
        refine AK.pass rfl rfl (hg_12_6) rfl ?_
        refine AK.pass rfl rfl (hg_12_6) rfl ?_
        refine .v (.pickT rfl (hg_12_6) rfl) ?_
        first | refine .v (.iN sl33 rfl rfl (hr := (by first | exact rdp | exact .arg (hNi _ (by omega))))) ?_ | refine .v (.iK sl33 rfl rfl (hr := (by first | exact rdp | exact .arg (hNi _ (by omega))))) ?_
        refine AK.store1e 1 rfl sz4 rfl rfl rfl rfl (by omega) (cs' := ((z.2.set y.1 (z.2.getD y.1 false || z.2.getD (stepQ d y.1 z.1).toNat false)).map Value.bool)) (by rw [List.map_set, hg_12_6]; rfl) trivial ?_
        refine .nil (.block_normal ?_)
        refine AK.then_ (hK21 _ ?_)
        refine AK.region ?_
        refine .v (.add rfl rfl (by omega)) ?_
        refine .mv rfl (.nil ?_)
        refine AK.then_ (hK18 _ _ ((z.1 + 1, (z.2.set y.1 (z.2.getD y.1 false || z.2.getD (stepQ d y.1 z.1).toNat false)))) ⟨by dsimp only; omega, hg2.2.step hv (by omega) (by omega)⟩ (by dsimp only; omega) (slr) (fun w hw => hw))
       ·have hg_12_6' := hg_12_6
        try simp only [bs] at hg_12_6'
        refine AK.val _ (Yl.move rfl) ⟨_, rfl, congrArg (fun b => some (Value.bool b)) hg_12_6⟩ rfl ?_
        refine AK.val _ (Yl.move rfl) ⟨_, rfl, congrArg (fun b => some (Value.bool b)) hg_12_6⟩ rfl ?_
        first | refine AK.val _ (.iN sl33 rfl rfl (hr := (by first | exact rdp | exact .arg (hNi _ (by omega))))) ⟨_, rfl, congrArg (fun b => some (Value.bool b)) hg_12_6⟩ rfl ?_ | refine AK.val _ (.iK sl33 rfl rfl (hr := (by first | exact rdp | exact .arg (hNi _ (by omega))))) ⟨_, rfl, congrArg (fun b => some (Value.bool b)) hg_12_6⟩ rfl ?_
        refine AK.val _ (Yl.loadB on4 rfl (by first | exact rdp | exact .arg (hNi _ (by omega))) (by omega)) ⟨_, rfl, congrArg (fun b => some (Value.bool b)) hg_12_6⟩ rfl ?_
        refine .v (.pickF rfl (hg_12_6) rfl) ?_
        first | refine .v (.iN sl33 rfl rfl (hr := (by first | exact rdp | exact .arg (hNi _ (by omega))))) ?_ | refine .v (.iK sl33 rfl rfl (hr := (by first | exact rdp | exact .arg (hNi _ (by omega))))) ?_
        refine AK.store1e 1 rfl sz4 rfl rfl rfl rfl (by omega) (cs' := ((z.2.set y.1 (z.2.getD y.1 false || z.2.getD (stepQ d y.1 z.1).toNat false)).map Value.bool)) (by rw [List.map_set, hg_12_6]; rfl) trivial ?_
        refine .nil (.block_normal ?_)
        refine AK.then_ (hK21 _ ?_)
        refine AK.region ?_
        refine .v (.add rfl rfl (by omega)) ?_
        refine .mv rfl (.nil ?_)
        refine AK.then_ (hK18 _ _ ((z.1 + 1, (z.2.set y.1 (z.2.getD y.1 false || z.2.getD (stepQ d y.1 z.1).toNat false)))) ⟨by dsimp only; omega, hg2.2.step hv (by omega) (by omega)⟩ (by dsimp only; omega) (slr) (fun w hw => hw))
      ·refine .exit (.then_exit (.then_exit (.block_exit (.block_normal ?_))))
       refine AK.then_ (hK15 _ ?_)
       refine AK.region ?_
       refine .v (.add rfl rfl (by omega)) ?_
       refine .mv rfl (.nil ?_)
       refine AK.then_ (hK12 _ _ ((y.1 + 1, z.2)) ⟨by dsimp only; omega, hg2.2.out hv (by omega) (by omega)⟩ (by dsimp only; omega) (slr) (fun w hw => hw))
    ·refine .exit (.then_exit (.then_exit (.block_exit (.block_normal ?_))))
     refine AK.then_ (hK8 _ ?_)
     refine AK.region ?_
     refine .v (.add rfl rfl (by omega)) ?_
     refine .mv rfl (.nil ?_)
     refine AK.then_ (hK5 _ _ ((x.1 + 1, y.2)) ⟨by dsimp only; omega, hg1.2.next (by omega)⟩ (by dsimp only; omega) (slr) (fun w hw => hw))
  ·refine .exit (.then_exit (.then_exit (.block_exit ?_)))
   refine AK.then_ (hK3 _ ?_)
   refine .sr fun _ hK23 => ?_
   refine .mv rfl (.as rfl (.nt hK23 (.ret ?_)))
   refine AK.ret1 rfl rfl (fun w hw => ⟨_, _, ?_, rfl, Ret.of (hw.pick [1] (by decide) rfl rfl)⟩)
   exact ⟨x.2, hl0, hg0.2.fin hv (by omega), hav, rfl⟩

noncomputable def InfV (d : Dfa) : Bool := @decide (VD d ∧ Cyc d) (Classical.propDecidable _)
theorem infV_iff {d : Dfa} : InfV d = true ↔ VD d ∧ Cyc d := by unfold InfV; exact @decide_eq_true_iff _ (Classical.propDecidable _)
def stD (d : Dfa) (q : Int) : Dfa := ⟨d.L, q, d.fin, d.nx⟩
theorem st_vd {d : Dfa} (hv : VD d) {q : Int} (hq : InR d q) : VD (stD d q) := ⟨hv.L, hv.n, hv.nx, hq, hv.row, hv.to⟩
theorem st_run (d : Dfa) (p : Int) (l : List UInt8) : ∀ q, runI (stD d p) q l = runI d q l := by
  induction l with
  | nil => intro q; rfl
  | cons c l ih => intro q; exact ih _
theorem tst_rch {d : Dfa} (hv : VD d) {q : Int} (h : q ∈ TSt d) : Rch d d.s q := by
  rw [← two_run hv] at h
  obtain ⟨l, hl, e⟩ := List.mem_map.1 h
  obtain ⟨h1, h2, h3⟩ := tst_fix hv
  have hL := hv.L
  have ha := exIw_let (f := stepQ d) (L := d.L.toNat) (by omega) (s := d.s) (z := 0) (TSt d).length l (by rw [h3]; exact hl)
  have e2 : ((d.L.toNat : Nat) : Int) = d.L := by omega
  rw [e2] at ha
  exact ⟨l, ha, e⟩
theorem rch_tst {d : Dfa} (hv : VD d) : ∀ {l : List UInt8} {q : Int}, q ∈ TSt d → Okw d l → runI d q l ∈ TSt d
  | [], q, hq, _ => hq
  | c :: l, q, hq, h => by
    unfold Okw at h; rw [List.all_cons, Bool.and_eq_true] at h
    have hc := h.1
    simp only [okB, decide_eq_true_eq] at hc
    exact rch_tst hv (l := l) (TSt_closed hv hq (x := ((c.toNat : Int) - 97).toNat) (by omega)) h.2
theorem liv_back {d : Dfa} (hv : VD d) {r : Int} {x : Nat} (hx : (x : Int) < d.L) (h : Liv d (stepQ d r x)) : Liv d r := by
  have hL := hv.L
  obtain ⟨w, h1, h2⟩ := h
  refine ⟨ltr x :: w, ?_, ?_⟩
  · unfold Okw at *; rw [List.all_cons, h1, okB_ltr hL hx]; rfl
  · show finQ d (runI d (stepI d r (ltr x)) w) = true
    rw [stepI_ltr (by omega)]; exact h2
/-- no way back to q through a live state -/
def Non (d : Dfa) (q : Int) : Prop := Liv d q → ∀ r ∈ TSt (stD d q), ∀ x : Nat, (x : Int) < d.L → stepQ d r x = q → ¬ Liv d r
theorem inf_found {d : Dfa} (hv : VD d) {q r : Int} {x : Nat} (hq : q ∈ TSt d) (hl : Liv d q) (hr : r ∈ TSt (stD d q)) (hx : (x : Int) < d.L) (e : stepQ d r x = q) : InfV d = true := by
  have hL := hv.L
  have hqr : InR d q := (TSt_ok hv).2.1 q hq
  obtain ⟨l, h1, h2⟩ := tst_rch (st_vd hv hqr) hr
  have h2' : runI d q l = r := by rw [← st_run d q]; exact h2
  refine infV_iff.2 ⟨hv, q, tst_rch hv hq, hl, l ++ [ltr x], by simp, ?_, ?_⟩
  · refine Okw.app (d := d) h1 ?_
    unfold Okw; rw [List.all_cons, okB_ltr hL hx]; rfl
  · rw [runI_append, h2']
    show stepI d r (ltr x) = q
    rw [stepI_ltr (by omega)]; exact e
theorem inf_none {d : Dfa} (hv : VD d) (h : ∀ i, i < (TSt d).length → Non d ((TSt d).getD i 0)) : InfV d = false := by
  rw [Bool.eq_false_iff]
  intro hc
  obtain ⟨_, q, ⟨u, hu, hq⟩, hl, c, hne, ho, hr⟩ := infV_iff.1 hc
  have hqm : q ∈ TSt d := by rw [← hq]; exact rch_tst hv (tst_start hv).1 hu
  have hn := h _ (posN_lt hqm)
  rw [getD_posN 0 hqm] at hn
  obtain ⟨b, c', e⟩ : ∃ b c', c = c' ++ [b] := ⟨c.getLast hne, c.dropLast, (List.dropLast_concat_getLast hne).symm⟩
  subst e
  have hqr : InR d q := (TSt_ok hv).2.1 q hqm
  have hb : okB d.L b = true := by have := ho.right; unfold Okw at this; simpa using this
  have hbx := hb
  simp only [okB, decide_eq_true_eq] at hbx
  have hrm : runI d q c' ∈ TSt (stD d q) := by
    rw [← st_run d q]
    exact rch_tst (st_vd hv hqr) (tst_start (st_vd hv hqr)).1 ho.left
  rw [runI_append] at hr
  have hs : stepQ d (runI d q c') ((b.toNat : Int) - 97).toNat = q := hr
  have hx : (((b.toNat : Int) - 97).toNat : Int) < d.L := by omega
  exact hn hl _ hrm _ hx hs (liv_back hv hx (by rw [hs]; exact hl))
theorem non_of {d : Dfa} {q : Int} (hvq : VD (stD d q)) {y : Nat} (hy : y = (TSt (stD d q)).length) (h : ∀ i, i < y → ∀ j : Nat, (j : Int) < d.L → stepQ d ((TSt (stD d q)).getD i 0) j = q → ¬ Liv d ((TSt (stD d q)).getD i 0)) : Non d q := by
  intro _ r hr x hx e
  have h1 := h _ (by rw [hy]; exact posN_lt hr) x hx
  rw [getD_posN 0 hr] at h1
  exact h1 e
set_option maxHeartbeats 2000000 in
set_option maxRecDepth 100000 in
theorem s_refinfinite (w : World) (v : Value) (d : Dfa) (h : RdD (fun _ => False) w v d) (hv : VD d) : CallS Try.prog 49 [v] w (fun r o => r = .bool (InfV d) ∧ o = []) := by
 have h0 := h
 obtain ⟨vF, vN, rfl, hF, hN⟩ := h
 have hF0 := hF
 have hN0 := hN
 obtain ⟨rs, hrl, hNr, hNi⟩ := hN
 have sF := hF.sl
 have sN := hNr.sl
 have hmf := hF.le
 have hmn := hNr.le
 unfold RdL at hF
 have hnx := hv.nx
 have hn5 := hv.n
 have hL := hv.L
 have hT := TSt_ok hv
 refine spec_of Try.func49 rfl (Nat.le_of_ble_eq_true rfl) ?_
 refine .sr fun _ hK1 => ?_
 refine AK.box_ (E := 36) (cs := [.int .i64 d.L, .int .i64 d.s, vF, vN]) rfl rfl rfl trivial rfl (fun bx1 => ?_)
 refine .as rfl (.nt hK1 ?_)
 refine .sr fun _ hK2 => ?_
 refine .v (.loadBoxG ag36 rfl bsp rfl rfl) ?_
 refine AK.call co65 rfl (fun w hw => s_live w _ d (h0.at hw) hv) trivial rfl ?_
 rintro lvv o ⟨ll, hll, hlv, slvv, rfl⟩
 refine .as rfl (.nt hK2 ?_)
 refine .sr fun _ hK3 => ?_
 refine .v (.loadBoxG ag36 rfl bsp rfl rfl) ?_
 refine AK.call co66 rfl (fun w hw => s_refaccess w _ d (h0.at hw) hv) trivial rfl ?_
 rintro r o ⟨vs, vw, svs, svw, rfl, rfl⟩
 refine .mv rfl ?_
 refine .v (.extract rfl rfl) ?_
 refine .v (.extract rfl rfl) ?_
 refine .as rfl (.as rfl (.nt hK3 ?_))
 refine .seq fun _ hK4 => ?_
 refine .sr fun _ hK5 => ?_
 refine .mv rfl ?_
 refine .v (.lenR sl74 rfl (by first | exact rdp | exact .arg (hNi _ (by omega)))) ?_
 refine .mv rfl (.nt hK5 (.block ?_))
 refine AK.loopK (X := Nat) [(1, _), (3, _), (22, _), (23, _)] (fun x => [(24, .int .i64 (x : Int))]) (fun x => [box bx1 36 4 [.int .i64 d.L, .int .i64 d.s, vF, vN], row lvv 4 1 d.fin.length (ll.map Value.bool), row vs 3 1 (TSt d).length ((TSt d).map (Value.int .i64)), row vw 9 1 (TWo d).length ((TWo d).map sv)]) (fun x => x ≤ (TSt d).length ∧ ∀ i, i < x → Non d ((TSt d).getD i 0)) (fun x => (TSt d).length - x) (0) slr ?_ ?_ ?_ ?_
 ·exact ⟨Nat.zero_le _, fun i hi => by omega⟩
 ·exact slr
 ·exact fun w hw => hw
 ·intro x hg0 _ hK6
  refine .sr fun _ hK7 => ?_
  refine .v (.lss rfl rfl) ?_
  refine .nt hK7 ?_
  refine .seq fun _ hK8 => ?_
  refine AK.condD rfl (fun hc0 => ?_) (fun hc0 => ?_)
  ·have hxm : x < (TSt d).length := by omega
   have hqm : ((TSt d).getD x 0) ∈ TSt d := getD_mem hxm
   have hqr : InR d ((TSt d).getD x 0) := hT.2.1 _ hqm
   have hvq := st_vd hv hqr
   have hq1 := hqr.1
   have hq2 := hqr.2
   have hlq := hlv _ hqr
   have hTq := TSt_ok hvq
   have hsl : (stD d ((TSt d).getD x 0)).fin.length = d.fin.length := rfl
   refine .skip ?_
   refine AK.then_ (hK8 _ ?_)
   refine .seq fun _ hK9 => ?_
   refine .block ?_
   refine .sr fun _ hK10 => ?_
   first | refine .v (.iN sl74 rfl rfl (hr := (by first | exact rdp | exact .arg (hNi _ (by omega))))) ?_ | refine .v (.iK sl74 rfl rfl (hr := (by first | exact rdp | exact .arg (hNi _ (by omega))))) ?_
   refine .v (.loadI on3 rfl (by first | exact rdp | exact .arg (hNi _ (by omega))) (by omega)) ?_
   refine .as rfl (.nt hK10 ?_)
   refine .seq fun _ hK11 => ?_
   refine .sr fun _ hK12 => ?_
   refine .mv rfl (.mv rfl ?_)
   first | refine .v (.iN sl33 rfl rfl (hr := (by first | exact rdp | exact .arg (hNi _ (by omega))))) ?_ | refine .v (.iK sl33 rfl rfl (hr := (by first | exact rdp | exact .arg (hNi _ (by omega))))) ?_
   refine .v (.loadB on4 rfl (by first | exact rdp | exact .arg (hNi _ (by omega))) (by omega)) ?_
   refine .v (.not rfl) ?_
   refine .nt hK12 ?_
   refine AK.condB rfl (fun hc1 => ?_) (fun hc1 => ?_)
   ·have hnl : ¬ Liv d ((TSt d).getD x 0) := fun h => by rw [hlq.2 h] at hc1; exact absurd hc1 (by decide)
    refine .exit (.then_exit (.block_exit ?_))
    refine AK.then_ (hK9 _ ?_)
    refine AK.region ?_
    refine .v (.add rfl rfl (by omega)) ?_
    refine .mv rfl (.nil ?_)
    refine AK.then_ (hK6 _ _ (x + 1) ⟨by omega, fun i hi => by rcases Nat.lt_or_eq_of_le (Nat.le_of_lt_succ hi) with h | rfl; exact hg0.2 i h; first | exact fun h => absurd h hnl | exact non_of hvq (by omega) hg1.2⟩ (by omega) (slr) (fun w hw => hw.pick [0, 1, 2, 3] (by decide) rfl rfl))
   ·have hyl : Liv d ((TSt d).getD x 0) := hlq.1 (by simpa using hc1)
    refine .skip ?_
    refine AK.then_ (hK11 _ ?_)
    refine .sr fun _ hK13 => ?_
    refine .v (.loadBoxG ag36 rfl bsp rfl rfl) ?_
    refine AK.alloc el36 rfl rfl trivial rfl (fun bx8 => ?_)
    refine AK.storeBox 4 (us := [.int .i64 d.L, .int .i64 d.s, vF, vN]) (cs' := [.int .i64 d.L, .int .i64 d.s, vF, vN]) rfl sz36 rfl rfl rfl rfl oneP (Nat.le_of_ble_eq_true rfl) rfl trivial ?_
    refine .nt hK13 ?_
    refine .sr fun _ hK14 => ?_
    refine .mv rfl ?_
    refine .v (.fieldAddr fd36_1 rfl) ?_
    refine AK.storeBox 4 (us := [.int .i64 ((TSt d).getD x 0)]) (cs' := [.int .i64 d.L, .int .i64 ((TSt d).getD x 0), vF, vN]) rfl sz3 rfl rfl rfl rfl oneP (Nat.le_of_ble_eq_true rfl) rfl trivial ?_
    refine .nt hK14 ?_
    refine .sr fun _ hK15 => ?_
    refine .v (.loadBoxG ag36 rfl bsp rfl rfl) ?_
    refine AK.call co66 rfl (fun w hw => s_refaccess w _ (stD d ((TSt d).getD x 0)) (RdD.mk (d := (stD d ((TSt d).getD x 0))) (hF0.at hw) (hN0.at hw)) hvq) trivial rfl ?_
    rintro r o ⟨us, uw, sus, suw, rfl, rfl⟩
    refine .mv rfl ?_
    refine .v (.extract rfl rfl) ?_
    refine .v (.extract rfl rfl) ?_
    refine .as rfl (.as rfl (.nt hK15 ?_))
    refine .sr fun _ hK16 => ?_
    refine .mv rfl ?_
    refine .v (.lenR sl74 rfl (by first | exact rdp | exact .arg (hNi _ (by omega)))) ?_
    refine .mv rfl (.nt hK16 (.block ?_))
    refine AK.loopK (X := Nat) [(1, _), (3, _), (7, _), (22, _), (23, _), (24, _), (41, _), (42, _)] (fun y => [(43, .int .i64 (y : Int))]) (fun y => [box bx1 36 4 [.int .i64 d.L, .int .i64 d.s, vF, vN], row lvv 4 1 d.fin.length (ll.map Value.bool), row vs 3 1 (TSt d).length ((TSt d).map (Value.int .i64)), row vw 9 1 (TWo d).length ((TWo d).map sv), box bx8 36 4 [.int .i64 d.L, .int .i64 ((TSt d).getD x 0), vF, vN], row us 3 1 (TSt (stD d ((TSt d).getD x 0))).length ((TSt (stD d ((TSt d).getD x 0))).map (Value.int .i64)), row uw 9 1 (TWo (stD d ((TSt d).getD x 0))).length ((TWo (stD d ((TSt d).getD x 0))).map sv)]) (fun y => y ≤ (TSt (stD d ((TSt d).getD x 0))).length ∧ ∀ i, i < y → ∀ j : Nat, (j : Int) < d.L → stepQ d ((TSt (stD d ((TSt d).getD x 0))).getD i 0) j = ((TSt d).getD x 0) → ¬ Liv d ((TSt (stD d ((TSt d).getD x 0))).getD i 0)) (fun y => (TSt (stD d ((TSt d).getD x 0))).length - y) (0) slr ?_ ?_ ?_ ?_
    ·exact ⟨Nat.zero_le _, fun i hi => by omega⟩
    ·exact slr
    ·exact fun w hw => hw
    ·intro y hg1 _ hK17
     refine .sr fun _ hK18 => ?_
     refine .v (.lss rfl rfl) ?_
     refine .nt hK18 ?_
     refine .seq fun _ hK19 => ?_
     refine AK.condD rfl (fun hc2 => ?_) (fun hc2 => ?_)
     ·have hym : y < (TSt (stD d ((TSt d).getD x 0))).length := by omega
      have hrm : ((TSt (stD d ((TSt d).getD x 0))).getD y 0) ∈ TSt (stD d ((TSt d).getD x 0)) := getD_mem hym
      have hrr : InR d ((TSt (stD d ((TSt d).getD x 0))).getD y 0) := hTq.2.1 _ hrm
      have hr1 := hrr.1
      have hr2 := hrr.2
      have hrow := hv.row ((TSt (stD d ((TSt d).getD x 0))).getD y 0).toNat (by omega)
      have hlr := hlv _ hrr
      refine .skip ?_
      refine AK.then_ (hK19 _ ?_)
      refine .seq fun _ hK20 => ?_
      refine .block ?_
      refine .sr fun _ hK21 => ?_
      first | refine .v (.iN sl74 rfl rfl (hr := (by first | exact rdp | exact .arg (hNi _ (by omega))))) ?_ | refine .v (.iK sl74 rfl rfl (hr := (by first | exact rdp | exact .arg (hNi _ (by omega))))) ?_
      refine .v (.loadI on3 rfl (by first | exact rdp | exact .arg (hNi _ (by omega))) (by omega)) ?_
      refine .as rfl (.nt hK21 ?_)
      refine .sr fun _ hK22 => ?_
      refine .v (.fieldAddr fd36_3 rfl) ?_
      refine .v (.loadBox on34 rfl bsp rfl) ?_
      refine .mv rfl ?_
      first | refine .v (.iN sl34 rfl rfl (hr := (by first | exact rdp | exact .arg (hNi _ (by omega))))) ?_ | refine .v (.iK sl34 rfl rfl (hr := (by first | exact rdp | exact .arg (hNi _ (by omega))))) ?_
      refine .v (.loadV on74 rfl (by first | exact rdp | exact .arg (hNi _ (by omega))) (by omega)) ?_
      refine .v (.lenR sl74 rfl (by first | exact rdp | exact .arg (hNi _ (by omega)))) ?_
      refine .mv rfl (.nt hK22 (.block ?_))
      refine AK.loopK (X := Nat) [(1, _), (3, _), (7, _), (12, _), (22, _), (23, _), (24, _), (41, _), (42, _), (43, _), (51, _), (52, _)] (fun z => [(53, .int .i64 (z : Int))]) (fun z => [box bx1 36 4 [.int .i64 d.L, .int .i64 d.s, vF, vN], row lvv 4 1 d.fin.length (ll.map Value.bool), row vs 3 1 (TSt d).length ((TSt d).map (Value.int .i64)), row vw 9 1 (TWo d).length ((TWo d).map sv), box bx8 36 4 [.int .i64 d.L, .int .i64 ((TSt d).getD x 0), vF, vN], row us 3 1 (TSt (stD d ((TSt d).getD x 0))).length ((TSt (stD d ((TSt d).getD x 0))).map (Value.int .i64)), row uw 9 1 (TWo (stD d ((TSt d).getD x 0))).length ((TWo (stD d ((TSt d).getD x 0))).map sv)]) (fun z => z ≤ (d.nx.getD ((TSt (stD d ((TSt d).getD x 0))).getD y 0).toNat []).length ∧ ∀ j : Nat, j < z → stepQ d ((TSt (stD d ((TSt d).getD x 0))).getD y 0) j = ((TSt d).getD x 0) → ¬ Liv d ((TSt (stD d ((TSt d).getD x 0))).getD y 0)) (fun z => (d.nx.getD ((TSt (stD d ((TSt d).getD x 0))).getD y 0).toNat []).length - z) (0) slr ?_ ?_ ?_ ?_
      ·exact ⟨Nat.zero_le _, fun i hi => by omega⟩
      ·exact slr
      ·exact fun w hw => hw
      ·intro z hg2 _ hK23
       refine .sr fun _ hK24 => ?_
       refine .v (.lss rfl rfl) ?_
       refine .nt hK24 ?_
       refine .seq fun _ hK25 => ?_
       refine AK.condD rfl (fun hc3 => ?_) (fun hc3 => ?_)
       ·refine .skip ?_
        refine AK.then_ (hK25 _ ?_)
        refine .seq fun _ hK26 => ?_
        refine .block ?_
        refine .sr fun _ hK27 => ?_
        first | refine .v (.iN sl74 rfl rfl (hr := (by first | exact rdp | exact .arg (hNi _ (by omega))))) ?_ | refine .v (.iK sl74 rfl rfl (hr := (by first | exact rdp | exact .arg (hNi _ (by omega))))) ?_
        refine .v (.loadI on3 rfl (by first | exact rdp | exact .arg (hNi _ (by omega))) (by omega)) ?_
        refine .as rfl (.nt hK27 ?_)
        refine .sr fun _ hK28 => ?_
        refine .mv rfl (.mv rfl ?_)
        refine .v (.eql rfl rfl) ?_
        refine .mv rfl ?_
        refine AK.splitB (g := 60) rfl (fun hg_16_3 => ?_) (fun hg_16_3 => ?_)
        ·have hg_16_3' := hg_16_3
         try simp only [bs] at hg_16_3'
         refine AK.val _ (Yl.move rfl) ⟨_, rfl, congrArg (fun b => some (Value.bool b)) hg_16_3⟩ rfl ?_
         refine AK.val _ (Yl.move rfl) ⟨_, rfl, congrArg (fun b => some (Value.bool b)) hg_16_3⟩ rfl ?_
         first | refine AK.val _ (.iN sl33 rfl rfl (hr := (by first | exact rdp | exact .arg (hNi _ (by omega))))) ⟨_, rfl, congrArg (fun b => some (Value.bool b)) hg_16_3⟩ rfl ?_ | refine AK.val _ (.iK sl33 rfl rfl (hr := (by first | exact rdp | exact .arg (hNi _ (by omega))))) ⟨_, rfl, congrArg (fun b => some (Value.bool b)) hg_16_3⟩ rfl ?_
         refine AK.val _ (Yl.loadB on4 rfl (by first | exact rdp | exact .arg (hNi _ (by omega))) (by omega)) ⟨_, rfl, congrArg (fun b => some (Value.bool b)) hg_16_3⟩ rfl ?_
         refine .v (.pickT rfl (hg_16_3) rfl) ?_
         refine .nt hK28 ?_
         refine AK.cond rfl (fun hc4 => ?_) (fun hc4 => ?_)
         ·try simp only [bs] at hc4
          refine .sr fun _ hK29 => ?_
          refine .as rfl (.nt hK29 (.ret (.block_ret (.then_ret (.then_ret (.block_ret (.block_ret (.then_ret (.then_ret (.block_ret (.block_ret ?_)))))))))))
          refine .then_ret (.then_ret (.block_ret (.then_ret ?_)))
          refine AK.ret1 rfl rfl (fun w hw => ⟨_, _, ?_, rfl, Ret.of (hw.pick [] (by decide) rfl rfl)⟩)
          rw [inf_found hv hqm hyl hrm (x := z) (by omega) hg_16_3']; exact ⟨rfl, rfl⟩
         ·try simp only [bs] at hc4
          refine .skip (.block_normal ?_)
          refine AK.then_ (hK26 _ ?_)
          refine AK.region ?_
          refine .v (.add rfl rfl (by omega)) ?_
          refine .mv rfl (.nil ?_)
          refine AK.then_ (hK23 _ _ (z + 1) ⟨by omega, fun j hj => by rcases Nat.lt_or_eq_of_le (Nat.le_of_lt_succ hj) with h | rfl; exact hg2.2 j h; first | exact fun e => absurd e hg_16_3' | exact fun _ h => by rw [hlr.2 h] at hc4; exact absurd hc4 (by decide)⟩ (by omega) (slr) (fun w hw => hw))
        ·have hg_16_3' := hg_16_3
         try simp only [bs] at hg_16_3'
         refine AK.pass rfl rfl (hg_16_3) rfl ?_
         refine AK.pass rfl rfl (hg_16_3) rfl ?_
         refine AK.pass rfl rfl (hg_16_3) rfl ?_
         refine AK.pass rfl rfl (hg_16_3) rfl ?_
         refine .v (.pickF rfl (hg_16_3) rfl) ?_
         refine .nt hK28 ?_
         refine AK.cond_f rfl (rfl) ?_
         refine .skip (.block_normal ?_)
         refine AK.then_ (hK26 _ ?_)
         refine AK.region ?_
         refine .v (.add rfl rfl (by omega)) ?_
         refine .mv rfl (.nil ?_)
         refine AK.then_ (hK23 _ _ (z + 1) ⟨by omega, fun j hj => by rcases Nat.lt_or_eq_of_le (Nat.le_of_lt_succ hj) with h | rfl; exact hg2.2 j h; first | exact fun e => absurd e hg_16_3' | exact fun _ h => by rw [hlr.2 h] at hc4; exact absurd hc4 (by decide)⟩ (by omega) (slr) (fun w hw => hw))
       ·refine .exit (.then_exit (.then_exit (.block_exit (.block_normal ?_))))
        refine AK.then_ (hK20 _ ?_)
        refine AK.region ?_
        refine .v (.add rfl rfl (by omega)) ?_
        refine .mv rfl (.nil ?_)
        refine AK.then_ (hK17 _ _ (y + 1) ⟨by omega, fun i hi => by rcases Nat.lt_or_eq_of_le (Nat.le_of_lt_succ hi) with h | rfl; exact hg1.2 i h; exact fun j hj => hg2.2 j (by omega)⟩ (by omega) (slr) (fun w hw => hw))
     ·refine .exit (.then_exit (.then_exit (.block_exit (.block_normal ?_))))
      refine AK.then_ (hK9 _ ?_)
      refine AK.region ?_
      refine .v (.add rfl rfl (by omega)) ?_
      refine .mv rfl (.nil ?_)
      refine AK.then_ (hK6 _ _ (x + 1) ⟨by omega, fun i hi => by rcases Nat.lt_or_eq_of_le (Nat.le_of_lt_succ hi) with h | rfl; exact hg0.2 i h; first | exact fun h => absurd h hnl | exact non_of hvq (by omega) hg1.2⟩ (by omega) (slr) (fun w hw => hw.pick [0, 1, 2, 3] (by decide) rfl rfl))
  ·refine .exit (.then_exit (.then_exit (.block_exit ?_)))
   refine AK.then_ (hK4 _ ?_)
   refine .sr fun _ hK30 => ?_
   refine .as rfl (.nt hK30 (.ret ?_))
   refine AK.ret1 rfl rfl (fun w hw => ⟨_, _, ?_, rfl, Ret.of (hw.pick [] (by decide) rfl rfl)⟩)
   rw [inf_none hv (fun i hi => hg0.2 i (by omega))]; exact ⟨rfl, rfl⟩

set_option maxHeartbeats 2000000 in
set_option maxRecDepth 100000 in
theorem s_elements (w : World) (v : Value) (d : Dfa) (h : RdD (fun _ => False) w v d) (mon : Bool) (us : List Rul) (hA : RdA us d) : CallS Try.prog 47 [v, .bool mon] w (fun r o => ∃ (ws : List Wrd) (q : Value) (ok : Bool), ElP us d.L.toNat mon ws ok ∧ IsSl q ∧ r = .tuple #[q, .bool ok] ∧ o = [view q 1 ws.length (ws.map sv)]) := by
 have h0 := h
 obtain ⟨vF, vN, rfl, hF, hN⟩ := h
 have hF0 := hF
 have hN0 := hN
 obtain ⟨rs, hrl, hNr, hNi⟩ := hN
 have sF := hF.sl
 have sN := hNr.sl
 have hmf := hF.le
 have hmn := hNr.le
 unfold RdL at hF
 have hv := hA.1
 have hnx := hv.nx
 have hn5 := hv.n
 have hL := hv.L
 have hvr := hv.row
 have hn6 : d.L.toNat ≤ 6 := (by omega)
 refine spec_of Try.func47 rfl (Nat.le_of_ble_eq_true rfl) ?_
 refine .sr fun _ hK1 => ?_
 refine AK.box_ (E := 36) (cs := [.int .i64 d.L, .int .i64 d.s, vF, vN]) rfl rfl rfl trivial rfl (fun bx2 => ?_)
 refine .as rfl (.as rfl (.nt hK1 ?_))
 refine .seq fun _ hK2 => ?_
 refine AK.joinK (X := Value × Value) [(1, _), (2, _)] (fun z => [(6, z.1), (7, z.2)]) (fun z => [box bx2 36 4 [.int .i64 d.L, .int .i64 d.s, vF, vN], row z.1 9 1 1 [sv []], row z.2 3 1 1 [.int .i64 d.s]]) (fun z => IsSl z.1 ∧ IsSl z.2) slr (fun _ hJ => ?_) (fun z hg => ?_)
 ·try (conv => enter [2, 2]; dsimp only [List.set_cons_zero, List.set_cons_succ, List.cons_append, List.nil_append])
  refine AK.held 6 mixed ?_
  refine HeldK.first 1 (fuel := 5) (listed' := (lb 6 2)) _ rfl krf krf rfl (Yl.fieldAddr fd36_1 rfl) trivial rfl ?_
  refine HeldK.first 2 (fuel := 4) (listed' := (lb 6 6)) _ rfl krf krf rfl (Yl.loadBox on3 rfl bsp rfl) trivial rfl ?_
  refine HeldK.two 0 3 (fuel := 3) (listed1 := (lb 6 7)) (listed2 := (lb 6 14)) krf rfl rfl krf krf ?_ ?_
  ·refine AK.lit (xs := [.const (sv [])]) sl53 el9 rfl rfl rfl (by intro a ha; simp at ha; subst ha; rfl) (by decide) (by decide) trivial rfl (fun lw => ?_)
   first | refine AK.shape (v := lw) 1 rfl (fun slw => ?_) | refine AK.shape (v := lw) 2 rfl (fun slw => ?_)
   refine .nil ?_
   try (conv => enter [2, 2]; dsimp only [List.set_cons_zero, List.set_cons_succ, List.cons_append, List.nil_append])
   refine HeldK.back Go.Sx.hle ?_
   refine HeldK.first 4 (fuel := 2) (listed' := (lb 6 23)) _ rfl krf krf rfl (Yl.assign rfl) trivial rfl ?_
   refine HeldK.one 3 (fuel := 1) (listed' := (lb 6 31)) krf rfl krf ?_
   refine AK.lit (xs := [.tmp 13]) sl74 el3 rfl rfl rfl (by intro a ha; simp at ha; subst ha; rfl) (by decide) (by decide) trivial rfl (fun lq => ?_)
   first | refine AK.shape (v := lq) 1 rfl (fun slq => ?_) | refine AK.shape (v := lq) 2 rfl (fun slq => ?_)
   refine .nil ?_
   try (conv => enter [2, 2]; dsimp only [List.set_cons_zero, List.set_cons_succ, List.cons_append, List.nil_append])
   refine HeldK.back Go.Sx.hle ?_
   refine HeldK.first 5 (fuel := 0) (listed' := (lb 6 63)) _ rfl krf krf rfl (Yl.assign rfl) trivial rfl ?_
   refine HeldK.done krf ?_
   exact hJ _ _ ((lw, lq)) ⟨slw, slq⟩ (slr) (fun w hw => by first | exact hw.pickLe [0, 1, 2] (by decide) pkl | exact hw.pickLe [0, 2, 1] (by decide) pkl)
  ·refine AK.lit (xs := [.tmp 13]) sl74 el3 rfl rfl rfl (by intro a ha; simp at ha; subst ha; rfl) (by decide) (by decide) trivial rfl (fun lq => ?_)
   first | refine AK.shape (v := lq) 1 rfl (fun slq => ?_) | refine AK.shape (v := lq) 2 rfl (fun slq => ?_)
   refine .nil ?_
   try (conv => enter [2, 2]; dsimp only [List.set_cons_zero, List.set_cons_succ, List.cons_append, List.nil_append])
   refine HeldK.back Go.Sx.hle ?_
   refine HeldK.one 0 (fuel := 2) (listed' := (lb 6 15)) krf rfl krf ?_
   refine AK.lit (xs := [.const (sv [])]) sl53 el9 rfl rfl rfl (by intro a ha; simp at ha; subst ha; rfl) (by decide) (by decide) trivial rfl (fun lw => ?_)
   first | refine AK.shape (v := lw) 1 rfl (fun slw => ?_) | refine AK.shape (v := lw) 2 rfl (fun slw => ?_)
   refine .nil ?_
   try (conv => enter [2, 2]; dsimp only [List.set_cons_zero, List.set_cons_succ, List.cons_append, List.nil_append])
   refine HeldK.back Go.Sx.hle ?_
   refine HeldK.first 4 (fuel := 1) (listed' := (lb 6 31)) _ rfl krf krf rfl (Yl.assign rfl) trivial rfl ?_
   refine HeldK.first 5 (fuel := 0) (listed' := (lb 6 63)) _ rfl krf krf rfl (Yl.assign rfl) trivial rfl ?_
   refine HeldK.done krf ?_
   exact hJ _ _ ((lw, lq)) ⟨slw, slq⟩ (slr) (fun w hw => by first | exact hw.pickLe [0, 1, 2] (by decide) pkl | exact hw.pickLe [0, 2, 1] (by decide) pkl)
 ·skip
  refine AK.then_ (hK2 _ ?_)
  refine .seq fun _ hK3 => ?_
  refine .sr fun _ hK4 => ?_
  refine .as rfl (.nt hK4 (.block ?_))
  refine AK.loopK (X := Nat × Value × Value × List Wrd) [(1, _), (2, _)] (fun x => [(6, x.2.1), (7, x.2.2.1), (8, .int .i64 (x.1 : Int))]) (fun x => [box bx2 36 4 [.int .i64 d.L, .int .i64 d.s, vF, vN], row x.2.1 9 1 x.2.2.2.length (x.2.2.2.map sv), row x.2.2.1 3 1 x.2.2.2.length ((rns d x.2.2.2).map (Value.int .i64))]) (fun x => Bfs us d.L.toNat x.1 x.2.2.2 ∧ x.2.2.2.length ≤ 401 ∧ IsSl x.2.1 ∧ IsSl x.2.2.1) (fun x => 402 - x.1) ((0, z.1, z.2, [[]])) slr ?_ ?_ ?_ ?_
  ·exact ⟨Bfs.init, by simp, hg.1, hg.2⟩
  ·exact slr
  ·exact fun w hw => hw
  ·intro x hg0 _ hK5
   have hil := hg0.1.il
   have hsw := hg0.2.2.1
   have hsq := hg0.2.2.2
   refine .seq fun _ hK6 => ?_
   refine .sr fun _ hK7 => ?_
   refine .mv rfl (.mv rfl ?_)
   refine .v (.lenR sl53 rfl (by first | exact rdp | exact .arg (hNi _ (by omega)) | exact RdS.view 1 rfl)) ?_
   refine .v (.lss rfl rfl) ?_
   refine .nt hK7 ?_
   refine AK.condD rfl (fun hc0 => ?_) (fun hc0 => ?_)
   ·have hxi : x.1 < x.2.2.2.length := (by omega)
    have hUm : (x.2.2.2.getD x.1 []) ∈ x.2.2.2 := getD_mem hxi
    have hUl := hg0.1.word hUm
    have hQ := hg0.1.inr hA rfl hUm
    have hq1 := hQ.1
    have hq2 := hQ.2
    refine .skip ?_
    refine AK.then_ (hK6 _ ?_)
    refine .seq fun _ hK8 => ?_
    refine .block ?_
    refine .seq fun _ hK9 => ?_
    refine .sr fun _ hK10 => ?_
    refine .v (.fieldAddr fd36_0 rfl) ?_
    refine .v (.loadBox on3 rfl bsp rfl) ?_
    refine .mv rfl (.nt hK10 (.block ?_))
    refine AK.loopK (X := Nat × Value × Value) [(1, _), (2, _), (8, _), (22, _)] (fun y => [(6, y.2.1), (7, y.2.2), (23, .int .i64 (y.1 : Int))]) (fun y => [box bx2 36 4 [.int .i64 d.L, .int .i64 d.s, vF, vN], row y.2.1 9 1 (x.2.2.2 ++ chx us (x.2.2.2.getD x.1 []) y.1).length ((x.2.2.2 ++ chx us (x.2.2.2.getD x.1 []) y.1).map sv), row y.2.2 3 1 (x.2.2.2 ++ chx us (x.2.2.2.getD x.1 []) y.1).length ((rns d (x.2.2.2 ++ chx us (x.2.2.2.getD x.1 []) y.1)).map (Value.int .i64))]) (fun y => y.1 ≤ d.L.toNat ∧ IsSl y.2.1 ∧ IsSl y.2.2) (fun y => d.L.toNat - y.1) ((0, x.2.1, x.2.2.1)) slr ?_ ?_ ?_ ?_
    ·exact ⟨Nat.zero_le _, hsw, hsq⟩
    ·exact slr
    ·exact fun w hw => by dsimp only; rw [show chx us (x.2.2.2.getD x.1 []) 0 = [] from rfl, List.append_nil]; exact hw
    ·intro y hg1 _ hK11
     have hyw := hg1.2.1
     have hyq := hg1.2.2
     refine .sr fun _ hK12 => ?_
     refine .v (.lss rfl rfl) ?_
     refine .nt hK12 ?_
     refine .seq fun _ hK13 => ?_
     refine AK.condD rfl (fun hc1 => ?_) (fun hc1 => ?_)
     ·have hyn : y.1 < d.L.toNat := (by omega)
      have hcl := chx_len (rs := us) (x.2.2.2.getD x.1 []) y.1
      have hrow := hvr (runI d d.s (x.2.2.2.getD x.1 [])).toNat (by omega)
      have hstep : (runI d d.s ((x.2.2.2.getD x.1 []) ++ [ltr y.1])) = stepQ d (runI d d.s (x.2.2.2.getD x.1 [])) y.1 := runI_snoc1 d _ _ (by omega)
      have hfin := hg0.1.fin hA rfl hUm hyn
      have hok := okw_snoc hv (hg0.1.okw hA rfl hUm) (show (y.1 : Int) < d.L by omega)
      have hQV := runI_inr hv ((x.2.2.2.getD x.1 []) ++ [ltr y.1]) d.s hv.s hok
      have hv1 := hQV.1
      have hv2 := hQV.2
      refine .skip ?_
      refine AK.then_ (hK13 _ ?_)
      refine .seq fun _ hK14 => ?_
      refine .block ?_
      refine .sr fun _ hK15 => ?_
      refine .mv rfl (.as rfl (.nt hK15 ?_))
      refine .seq fun _ hK16 => ?_
      refine AK.quiet mixed krf ?_
      refine .v (.fieldAddr fd36_3 rfl) ?_
      refine .v (.loadBox on34 rfl bsp rfl) ?_
      refine .mv rfl (.mv rfl ?_)
      first | refine .v (.iN sl74 rfl rfl (hr := (by first | exact rdp | exact .arg (hNi _ (by omega)) | exact RdS.view 1 rfl)) (h0 := (by rw [List.length_append]; omega))) ?_ | refine .v (.iK sl74 rfl rfl (hr := (by first | exact rdp | exact .arg (hNi _ (by omega)) | exact RdS.view 1 rfl)) (h0 := (by rw [List.length_append]; omega))) ?_
      refine QK.val (.int .i64 (runI d d.s (x.2.2.2.getD x.1 []))) (Yl.valE (Yl.loadI on3 rfl rdp (by rw [rns_len, List.length_append]; omega)) (congrArg (Value.int .i64) (by rw [rns_app, getD_appL (by rw [rns_len]; omega), rns_get (by omega)]))) trivial rfl ?_
      first | refine .v (.iN sl34 rfl rfl (hr := (by first | exact rdp | exact .arg (hNi _ (by omega)) | exact RdS.view 1 rfl))) ?_ | refine .v (.iK sl34 rfl rfl (hr := (by first | exact rdp | exact .arg (hNi _ (by omega)) | exact RdS.view 1 rfl))) ?_
      refine .v (.loadV on74 rfl (by first | exact rdp | exact .arg (hNi _ (by omega)) | exact RdS.view 1 rfl) (by omega)) ?_
      refine .mv rfl ?_
      first | refine .v (.iN sl74 rfl rfl (hr := (by first | exact rdp | exact .arg (hNi _ (by omega)) | exact RdS.view 1 rfl))) ?_ | refine .v (.iK sl74 rfl rfl (hr := (by first | exact rdp | exact .arg (hNi _ (by omega)) | exact RdS.view 1 rfl))) ?_
      refine QK.val (.int .i64 (runI d d.s ((x.2.2.2.getD x.1 []) ++ [ltr y.1]))) (Yl.valE (Yl.loadI on3 rfl (by first | exact rdp | exact .arg (hNi _ (by omega))) (by omega)) (congrArg (Value.int .i64) hstep.symm)) trivial rfl ?_
      refine .as rfl ?_
      refine QK.nil (QK.fin ?_)
      refine AK.then_ (hK16 _ ?_)
      refine .sr fun _ hK17 => ?_
      refine .v (.fieldAddr fd36_2 rfl) ?_
      refine .v (.loadBox on33 rfl bsp rfl) ?_
      refine .mv rfl ?_
      first | refine .v (.iN sl33 rfl rfl (hr := (by first | exact rdp | exact .arg (hNi _ (by omega)) | exact RdS.view 1 rfl))) ?_ | refine .v (.iK sl33 rfl rfl (hr := (by first | exact rdp | exact .arg (hNi _ (by omega)) | exact RdS.view 1 rfl))) ?_
      refine .v (.loadB on4 rfl (by first | exact rdp | exact .arg (hNi _ (by omega)) | exact RdS.view 1 rfl) (by omega)) ?_
      refine .nt hK17 ?_
      refine AK.cond rfl (fun hc2 => ?_) (fun hc2 => ?_)
      ·try simp only [bs] at hc2
       have hr : rdb us ((x.2.2.2.getD x.1 []) ++ [ltr y.1]) = true := (by rw [← hfin, ← hstep]; exact hc2)
       refine .sr fun _ hK18 => ?_
       refine .mv rfl (.mv rfl (.mv rfl ?_))
       first | refine .v (.iN sl53 rfl rfl (hr := (by first | exact rdp | exact .arg (hNi _ (by omega)) | exact RdS.view 1 rfl)) (h0 := (by rw [List.length_append]; omega))) ?_ | refine .v (.iK sl53 rfl rfl (hr := (by first | exact rdp | exact .arg (hNi _ (by omega)) | exact RdS.view 1 rfl)) (h0 := (by rw [List.length_append]; omega))) ?_
       refine AK.val (sv (x.2.2.2.getD x.1 [])) (Yl.valE (Yl.loadS on9 rfl rdp (by rw [List.length_append]; omega)) (congrArg sv (getD_appL (by omega)))) trivial rfl ?_
       refine .mv rfl ?_
       refine .v (.add rfl rfl (by omega)) ?_
       refine .v (.convI (by kernel_rfl) un21 rfl (wrap_i32w (by omega))) ?_
       refine AK.val (sv [ltr y.1]) (Yl.valE (Yl.runeS (by kernel_rfl) un9 rfl (by omega)) (congrArg (fun c => sv [c]) (ofNat_ltr (by omega)))) trivial rfl ?_
       refine .v (.concat rfl rfl (by rw [List.length_singleton]; omega)) ?_
       refine AK.append1 1 rfl sl53 el9 rfl (by decide) rfl (by intro k hk; cases hk; rfl) rfl (by intro u hu; replace hu : u ∈ [sv ((x.2.2.2.getD x.1 []) ++ [ltr y.1])] := hu; rw [List.mem_singleton] at hu; subst hu; rfl) (by rw [List.length_append]; omega) (by rw [List.length_append]; omega) (by decide) rfl rfl (fun va _ ha => ?_)
       refine .as rfl (.nt hK18 ?_)
       refine AK.region ?_
       refine .mv rfl (.mv rfl ?_)
       refine AK.append1 2 rfl sl74 el3 rfl (by decide) rfl (by intro k hk; cases hk; rfl) rfl (by intro u hu; simp [Value.cells] at hu; subst hu; rfl) (by rw [List.length_append]; omega) (by rw [List.length_append]; omega) (by decide) rfl rfl (fun qa _ hqa => ?_)
       refine .as rfl (.nil (.block_normal ?_))
       refine AK.then_ (hK14 _ ?_)
       refine AK.region ?_
       refine .v (.add rfl rfl (by omega)) ?_
       refine .mv rfl (.nil ?_)
       first | refine AK.then_ (hK11 _ _ ((y.1 + 1, va, qa)) ⟨by dsimp only; omega, ha, hqa⟩ (by dsimp only; omega) (slr) (fun w hw => by dsimp only; rw [chx_yes hr, ← List.append_assoc, map_snoc, rns_snoc, len_snoc]; exact hw.pick [0, 1, 2] (by decide) rfl rfl)) | refine AK.then_ (hK11 _ _ ((y.1 + 1, y.2.1, y.2.2)) ⟨by dsimp only; omega, hyw, hyq⟩ (by dsimp only; omega) (slr) (fun w hw => by dsimp only; rw [chx_no hr]; exact hw.pick [0, 1, 2] (by decide) rfl rfl))
      ·try simp only [bs] at hc2
       have hr : ¬ rdb us ((x.2.2.2.getD x.1 []) ++ [ltr y.1]) = true := (by rw [← hfin, ← hstep]; unfold finQ; rw [hc2]; decide)
       refine .skip (.block_normal ?_)
       refine AK.then_ (hK14 _ ?_)
       refine AK.region ?_
       refine .v (.add rfl rfl (by omega)) ?_
       refine .mv rfl (.nil ?_)
       first | refine AK.then_ (hK11 _ _ ((y.1 + 1, va, qa)) ⟨by dsimp only; omega, ha, hqa⟩ (by dsimp only; omega) (slr) (fun w hw => by dsimp only; rw [chx_yes hr, ← List.append_assoc, map_snoc, rns_snoc, len_snoc]; exact hw.pick [0, 1, 2] (by decide) rfl rfl)) | refine AK.then_ (hK11 _ _ ((y.1 + 1, y.2.1, y.2.2)) ⟨by dsimp only; omega, hyw, hyq⟩ (by dsimp only; omega) (slr) (fun w hw => by dsimp only; rw [chx_no hr]; exact hw.pick [0, 1, 2] (by decide) rfl rfl))
     ·have hyn : y.1 = d.L.toNat := (by omega)
      rw [hyn]
      have hB := hg0.1.step (by omega : x.1 < x.2.2.2.length)
      have hcl := chx_len (rs := us) (x.2.2.2.getD x.1 []) d.L.toNat
      refine .exit (.then_exit (.then_exit (.block_exit ?_)))
      refine AK.then_ (hK9 _ ?_)
      refine .sr fun _ hK19 => ?_
      refine .mv rfl ?_
      refine .v (.lenR sl53 rfl (by first | exact rdp | exact .arg (hNi _ (by omega)) | exact RdS.view 1 rfl)) ?_
      refine .v (.gtr rfl rfl) ?_
      refine .nt hK19 ?_
      refine AK.condD rfl (fun hc3 => ?_) (fun hc3 => ?_)
      ·have hlong : 401 < (x.2.2.2 ++ chx us (x.2.2.2.getD x.1 []) d.L.toNat).length := (by omega)
       refine .sr fun _ hK20 => ?_
       refine .as rfl (.as rfl (.nt hK20 (.ret (.block_ret (.then_ret (.then_ret (.block_ret (.then_ret ?_))))))))
       refine AK.own' _ (fun w hw => hw.viewNil) ?_
       refine AK.ret2 rfl rfl rfl (fun w hw => ⟨_, _, ?_, rfl, Ret.of (hw.pick [3] (by decide) rfl rfl)⟩)
       exact ⟨[], .slice none 0 0, false, .inr ⟨rfl, hB.long hlong⟩, nilSl, rfl, rfl⟩
      ·refine .skip (.block_normal ?_)
       refine AK.then_ (hK8 _ ?_)
       refine AK.region ?_
       refine .mv rfl ?_
       refine .v (.add rfl rfl (by omega)) ?_
       refine .as rfl (.nil ?_)
       refine AK.then_ (hK5 _ _ ((x.1 + 1, y.2.1, y.2.2, x.2.2.2 ++ chx us (x.2.2.2.getD x.1 []) d.L.toNat)) ⟨hB, by dsimp only; omega, hg1.2.1, hg1.2.2⟩ (by dsimp only; omega) (slr) (fun w hw => hw.pick [0, 1, 2] (by decide) rfl rfl))
   ·have hxe : x.1 = x.2.2.2.length := (by have := hg0.1.il; omega)
    have hWp := hg0.1.pos
    refine .exit (.then_exit (.then_exit (.block_exit ?_)))
    refine AK.then_ (hK3 _ ?_)
    refine .seq fun _ hK21 => ?_
    refine .sr fun _ hK22 => ?_
    refine .mv rfl ?_
    refine .v (.not rfl) ?_
    refine .nt hK22 ?_
    refine AK.condB rfl (fun hc4 => ?_) (fun hc4 => ?_)
    ·have hmon : mon = false := (by simpa using hc4)
     refine AK.region ?_
     refine .mv rfl ?_
     refine AK.val (slFr x.2.1 1 1) (Yl.sliceFr (m := 1) (n := x.2.2.2.length) (CutS.row 1 rfl) sl53 rfl rfl (by omega)) trivial rfl ?_
     refine AK.viewFr 1 1 rfl (by omega) ?_
     refine .as rfl (.nt hK21 ?_)
     refine .sr fun _ hK23 => ?_
     refine .mv rfl (.mv rfl ?_)
     refine .v (.lenR sl53 rfl (by first | exact rdp | exact .arg (hNi _ (by omega)) | exact RdS.view 1 rfl)) ?_
     refine .v (.leq rfl rfl) ?_
     refine .as rfl (.as rfl (.nt hK23 (.ret ?_)))
     refine AK.ret2 rfl rfl rfl (fun w hw => ⟨_, _, ?_, rfl, Ret.of (hw.pick [1] (by decide) rfl rfl)⟩)
     refine ⟨x.2.2.2.drop 1, slFr x.2.1 1 1, decide (((x.2.2.2.drop 1).length : Int) ≤ 400), hg0.1.few (mon := mon) hxe (x.2.2.2.drop 1) (by rw [hmon]; rfl), slFr_is hsw, ?_, ?_⟩
     ·rw [List.length_drop]
     ·show [view (slFr x.2.1 1 1) 1 (x.2.2.2.length - 1) ((x.2.2.2.map sv).drop 1)] = _
      rw [List.length_drop, List.map_drop]
    ·have hmon : mon = true := (by simpa using hc4)
     refine AK.view0 1 rfl ?_
     refine .skip ?_
     refine AK.then_ (hK21 _ ?_)
     refine .sr fun _ hK24 => ?_
     refine .mv rfl (.mv rfl ?_)
     refine .v (.lenR sl53 rfl (by first | exact rdp | exact .arg (hNi _ (by omega)) | exact RdS.view 1 rfl)) ?_
     refine .v (.leq rfl rfl) ?_
     refine .as rfl (.as rfl (.nt hK24 (.ret ?_)))
     refine AK.ret2 rfl rfl rfl (fun w hw => ⟨_, _, ?_, rfl, Ret.of (hw.pick [1] (by decide) rfl rfl)⟩)
     exact ⟨x.2.2.2, x.2.1, decide ((x.2.2.2.length : Int) ≤ 400), hg0.1.few (mon := mon) hxe x.2.2.2 (by rw [hmon]; rfl), hsw, rfl, rfl⟩

end Go.Proofs.Ytaeojcaidcjnaaa
