import Derived.Test.YtckicbgffhbacaaDoorTy
import Derived.Test.YtckicbgffhbacaaDoorDP
set_option linter.unusedVariables false
set_option linter.unusedSimpArgs false
namespace Go.Proofs.YtckicbgffhbacaaDoor
open Go.Sx Go.RowKit
set_option maxRecDepth 100000 in
theorem s_may (w : World) (n : Int) : CallS Tryd.prog 18 [.int .i64 n] w (fun r o => r = .bool (decide (1 ≤ n ∧ n ≤ 6)) ∧ o = []) := by
 refine spec_of Tryd.func18 rfl (Nat.le_of_ble_eq_true rfl) ?_
 refine .sr fun _ hK1 => ?_
 refine .as rfl (.nt hK1 ?_)
 refine .sr fun _ hK2 => ?_
 refine .mv rfl ?_
 refine .v (.geq rfl rfl) ?_
 refine .mv rfl ?_
 refine AK.splitB (g := 5) rfl (fun hg_1_2 => ?_) (fun hg_1_2 => ?_)
 ·have hg_1_2' := hg_1_2
  try simp only [bs] at hg_1_2'
  refine AK.val _ (Yl.move rfl) ⟨_, rfl, congrArg (fun b => some (Value.bool b)) hg_1_2⟩ rfl ?_
  refine AK.val _ (Yl.leq rfl rfl) ⟨_, rfl, congrArg (fun b => some (Value.bool b)) hg_1_2⟩ rfl ?_
  refine .v (.pickT rfl (hg_1_2) rfl) ?_
  refine .as rfl (.nt hK2 (.ret ?_))
  refine AK.ret1 rfl rfl (fun w hw => ⟨_, _, ?_, rfl, Ret.of (hw.pick [] (by decide) rfl rfl)⟩)
  refine ⟨congrArg Value.bool ?_, rfl⟩
  first | (symm; rw [decide_eq_false_iff_not]; omega) | (apply decide_eq_decide.2; omega)
 ·have hg_1_2' := hg_1_2
  try simp only [bs] at hg_1_2'
  refine AK.pass rfl rfl (hg_1_2) rfl ?_
  refine AK.pass rfl rfl (hg_1_2) rfl ?_
  refine .v (.pickF rfl (hg_1_2) rfl) ?_
  refine .as rfl (.nt hK2 (.ret ?_))
  refine AK.ret1 rfl rfl (fun w hw => ⟨_, _, ?_, rfl, Ret.of (hw.pick [] (by decide) rfl rfl)⟩)
  refine ⟨congrArg Value.bool ?_, rfl⟩
  first | (symm; rw [decide_eq_false_iff_not]; omega) | (apply decide_eq_decide.2; omega)

set_option maxRecDepth 100000 in
theorem s_validate (w : World) (v : Value) (d : Dfa) (h : RdD (fun _ => False) w v d) : CallS Tryd.prog 15 [v] w (fun r o => r = .int .i64 (errV d) ∧ o = []) := by
 have h0 := h
 obtain ⟨vF, vN, rfl, hF, hN⟩ := h
 obtain ⟨rs, hrl, hNr, hNi⟩ := hN
 have sF := hF.sl
 have sN := hNr.sl
 have hmf := hF.le
 have hmn := hNr.le
 unfold RdL at hF
 refine spec_of Tryd.func15 rfl (Nat.le_of_ble_eq_true rfl) ?_
 refine .sr fun _ hK1 => ?_
 refine AK.box_ (E := 32) (cs := [.int .i64 d.L, .int .i64 d.s, vF, vN]) rfl rfl rfl trivial rfl (fun bx1 => ?_)
 refine .as rfl (.nt hK1 ?_)
 refine .seq fun _ hK2 => ?_
 refine .sr fun _ hK3 => ?_
 refine .v (.fieldAddr fd32_0 rfl) ?_
 refine .v (.loadBox on3 rfl bsp rfl) ?_
 refine .v (.lss rfl rfl) ?_
 refine .mv rfl ?_
 refine AK.splitB (g := 11) rfl (fun hg_1_3 => ?_) (fun hg_1_3 => ?_)
 ·have hg_1_3' := hg_1_3
  try simp only [bs] at hg_1_3'
  refine AK.pass rfl rfl (hg_1_3) rfl ?_
  refine AK.pass rfl rfl (hg_1_3) rfl ?_
  refine AK.pass rfl rfl (hg_1_3) rfl ?_
  refine .v (.pickT rfl (hg_1_3) rfl) ?_
  refine .nt hK3 ?_
  refine AK.cond_t rfl (rfl) ?_
  refine .sr fun _ hK4 => ?_
  refine .as rfl (.nt hK4 (.ret (.then_ret ?_)))
  refine AK.ret1 rfl rfl (fun w hw => ⟨_, _, ?_, rfl, Ret.of (hw.pick [] (by decide) rfl rfl)⟩)
  refine ⟨congrArg (Value.int .i64) ?_, rfl⟩; unfold errV; rw [if_pos (by omega)]
 ·have hg_1_3' := hg_1_3
  try simp only [bs] at hg_1_3'
  refine AK.val _ (Yl.fieldAddr fd32_0 rfl) ⟨_, rfl, congrArg (fun b => some (Value.bool b)) hg_1_3⟩ rfl ?_
  refine AK.val _ (Yl.loadBox on3 rfl bsp rfl) ⟨_, rfl, congrArg (fun b => some (Value.bool b)) hg_1_3⟩ rfl ?_
  refine AK.val _ (Yl.gtr rfl rfl) ⟨_, rfl, congrArg (fun b => some (Value.bool b)) hg_1_3⟩ rfl ?_
  refine .v (.pickF rfl (hg_1_3) rfl) ?_
  refine .nt hK3 ?_
  refine AK.condD rfl (fun hc0 => ?_) (fun hc0 => ?_)
  ·refine .sr fun _ hK5 => ?_
   refine .as rfl (.nt hK5 (.ret (.then_ret ?_)))
   refine AK.ret1 rfl rfl (fun w hw => ⟨_, _, ?_, rfl, Ret.of (hw.pick [] (by decide) rfl rfl)⟩)
   refine ⟨congrArg (Value.int .i64) ?_, rfl⟩; unfold errV; rw [if_pos (by omega)]
  ·refine .skip ?_
   refine AK.then_ (hK2 _ ?_)
   refine .sr fun _ hK6 => ?_
   refine .v (.fieldAddr fd32_2 rfl) ?_
   refine .v (.loadBox on29 rfl bsp rfl) ?_
   refine .v (.lenR sl29 rfl (by first | exact rdp | exact .arg (hNi k (by omega)))) ?_
   refine .as rfl (.nt hK6 ?_)
   refine .seq fun _ hK7 => ?_
   refine .sr fun _ hK8 => ?_
   refine .mv rfl ?_
   refine .v (.gtr rfl rfl) ?_
   refine .nt hK8 ?_
   refine AK.condD rfl (fun hc1 => ?_) (fun hc1 => ?_)
   ·refine .sr fun _ hK9 => ?_
    refine .as rfl (.nt hK9 (.ret (.then_ret ?_)))
    refine AK.ret1 rfl rfl (fun w hw => ⟨_, _, ?_, rfl, Ret.of (hw.pick [] (by decide) rfl rfl)⟩)
    refine ⟨congrArg (Value.int .i64) ?_, rfl⟩; unfold errV; rw [if_neg (by omega), if_pos (by omega)]
   ·refine .skip ?_
    refine AK.then_ (hK7 _ ?_)
    refine .seq fun _ hK10 => ?_
    refine .sr fun _ hK11 => ?_
    refine .v (.fieldAddr fd32_3 rfl) ?_
    refine .v (.loadBox on30 rfl bsp rfl) ?_
    refine .v (.lenR sl30 rfl (by first | exact rdp | exact .arg (hNi k (by omega)))) ?_
    refine .mv rfl ?_
    refine .v (.neq rfl rfl) ?_
    refine .mv rfl ?_
    refine AK.splitB (g := 26) rfl (fun hg_6_5 => ?_) (fun hg_6_5 => ?_)
    ·have hg_6_5' := hg_6_5
     try simp only [bs] at hg_6_5'
     refine AK.pass rfl rfl (hg_6_5) rfl ?_
     refine AK.pass rfl rfl (hg_6_5) rfl ?_
     refine AK.pass rfl rfl (hg_6_5) rfl ?_
     refine .v (.pickT rfl (hg_6_5) rfl) ?_
     refine .mv rfl ?_
     refine AK.pass rfl rfl rfl rfl ?_
     refine AK.pass rfl rfl rfl rfl ?_
     refine AK.pass rfl rfl rfl rfl ?_
     refine AK.pass rfl rfl rfl rfl ?_
     refine .v (.pickT rfl (rfl) rfl) ?_
     refine .nt hK11 ?_
     refine AK.cond_t rfl (rfl) ?_
     refine .sr fun _ hK12 => ?_
     refine .as rfl (.nt hK12 (.ret (.then_ret ?_)))
     refine AK.ret1 rfl rfl (fun w hw => ⟨_, _, ?_, rfl, Ret.of (hw.pick [] (by decide) rfl rfl)⟩)
     refine ⟨congrArg (Value.int .i64) ?_, rfl⟩; unfold errV; rw [if_neg (by omega), if_neg (by omega), if_pos (by omega)]
    ·have hg_6_5' := hg_6_5
     try simp only [bs] at hg_6_5'
     refine AK.val _ (Yl.fieldAddr fd32_1 rfl) ⟨_, rfl, congrArg (fun b => some (Value.bool b)) hg_6_5⟩ rfl ?_
     refine AK.val _ (Yl.loadBox on3 rfl bsp rfl) ⟨_, rfl, congrArg (fun b => some (Value.bool b)) hg_6_5⟩ rfl ?_
     refine AK.val _ (Yl.lss rfl rfl) ⟨_, rfl, congrArg (fun b => some (Value.bool b)) hg_6_5⟩ rfl ?_
     refine .v (.pickF rfl (hg_6_5) rfl) ?_
     refine .mv rfl ?_
     refine AK.splitB (g := 31) rfl (fun hg_6_10 => ?_) (fun hg_6_10 => ?_)
     ·have hg_6_10' := hg_6_10
      try simp only [bs] at hg_6_10'
      refine AK.pass rfl rfl (hg_6_10) rfl ?_
      refine AK.pass rfl rfl (hg_6_10) rfl ?_
      refine AK.pass rfl rfl (hg_6_10) rfl ?_
      refine AK.pass rfl rfl (hg_6_10) rfl ?_
      refine .v (.pickT rfl (hg_6_10) rfl) ?_
      refine .nt hK11 ?_
      refine AK.cond_t rfl (rfl) ?_
      refine .sr fun _ hK13 => ?_
      refine .as rfl (.nt hK13 (.ret (.then_ret ?_)))
      refine AK.ret1 rfl rfl (fun w hw => ⟨_, _, ?_, rfl, Ret.of (hw.pick [] (by decide) rfl rfl)⟩)
      refine ⟨congrArg (Value.int .i64) ?_, rfl⟩; unfold errV; rw [if_neg (by omega), if_neg (by omega), if_pos (by omega)]
     ·have hg_6_10' := hg_6_10
      try simp only [bs] at hg_6_10'
      refine AK.val _ (Yl.fieldAddr fd32_1 rfl) ⟨_, rfl, congrArg (fun b => some (Value.bool b)) hg_6_10⟩ rfl ?_
      refine AK.val _ (Yl.loadBox on3 rfl bsp rfl) ⟨_, rfl, congrArg (fun b => some (Value.bool b)) hg_6_10⟩ rfl ?_
      refine AK.val _ (Yl.move rfl) ⟨_, rfl, congrArg (fun b => some (Value.bool b)) hg_6_10⟩ rfl ?_
      refine AK.val _ (Yl.geq rfl rfl) ⟨_, rfl, congrArg (fun b => some (Value.bool b)) hg_6_10⟩ rfl ?_
      refine .v (.pickF rfl (hg_6_10) rfl) ?_
      refine .nt hK11 ?_
      refine AK.condD rfl (fun hc2 => ?_) (fun hc2 => ?_)
      ·refine .sr fun _ hK14 => ?_
       refine .as rfl (.nt hK14 (.ret (.then_ret ?_)))
       refine AK.ret1 rfl rfl (fun w hw => ⟨_, _, ?_, rfl, Ret.of (hw.pick [] (by decide) rfl rfl)⟩)
       refine ⟨congrArg (Value.int .i64) ?_, rfl⟩; unfold errV; rw [if_neg (by omega), if_neg (by omega), if_pos (by omega)]
      ·refine .skip ?_
       refine AK.then_ (hK10 _ ?_)
       refine .seq fun _ hK15 => ?_
       refine .sr fun _ hK16 => ?_
       refine .v (.fieldAddr fd32_3 rfl) ?_
       refine .v (.loadBox on30 rfl bsp rfl) ?_
       refine .v (.lenR sl30 rfl (by first | exact rdp | exact .arg (hNi k (by omega)))) ?_
       refine .mv rfl (.nt hK16 (.block ?_))
       refine AK.loopK (X := Nat) [(1, _), (3, _), (38, _), (39, _)] (fun k => [(40, .int .i64 (k : Int))]) (fun k => [box bx1 32 4 [.int .i64 d.L, .int .i64 d.s, vF, vN]]) (fun k => k ≤ d.nx.length ∧ (d.nx.take k).any (badRow d.fin.length d.L) = false) (fun k => d.nx.length - k) (0) slr ?_ ?_ ?_ ?_
       ·exact ⟨Nat.zero_le _, rfl⟩
       ·exact slr
       ·exact fun w hw => hw
       ·intro k hg0 _ hK17
        obtain ⟨hk, hg1⟩ := hg0
        have hrk := fun hk1 => (hNi k hk1).le
        refine .sr fun _ hK18 => ?_
        refine .v (.lss rfl rfl) ?_
        refine .nt hK18 ?_
        refine .seq fun _ hK19 => ?_
        refine AK.condD rfl (fun hc3 => ?_) (fun hc3 => ?_)
        ·refine .skip ?_
         refine AK.then_ (hK19 _ ?_)
         refine .seq fun _ hK20 => ?_
         refine .block ?_
         refine .sr fun _ hK21 => ?_
         first | refine .v (.iN sl30 rfl rfl (hr := (by first | exact rdp | exact .arg (hNi k (by omega))))) ?_ | refine .v (.iK sl30 rfl rfl (hr := (by first | exact rdp | exact .arg (hNi k (by omega))))) ?_
         refine .v (.loadV on41 rfl (by first | exact rdp | exact .arg (hNi k (by omega))) (by omega)) ?_
         refine .as rfl (.nt hK21 ?_)
         refine .seq fun _ hK22 => ?_
         refine .sr fun _ hK23 => ?_
         refine .mv rfl ?_
         refine .v (.lenR sl41 rfl (by first | exact rdp | exact .arg (hNi k (by omega)))) ?_
         refine .v (.fieldAddr fd32_0 rfl) ?_
         refine .v (.loadBox on3 rfl bsp rfl) ?_
         refine .v (.neq rfl rfl) ?_
         refine .nt hK23 ?_
         refine AK.condNe rfl (fun hc4 => ?_) (fun hc4 => ?_)
         ·refine .sr fun _ hK24 => ?_
          refine .as rfl (.nt hK24 (.ret (.then_ret (.block_ret (.then_ret (.then_ret (.block_ret (.then_ret ?_))))))))
          refine AK.ret1 rfl rfl (fun w hw => ⟨_, _, ?_, rfl, Ret.of (hw.pick [] (by decide) rfl rfl)⟩)
          refine ⟨congrArg (Value.int .i64) ?_, rfl⟩; unfold errV; rw [if_neg (by omega), if_neg (by omega), if_neg (by omega), if_pos (any_at _ [] (by omega : k < d.nx.length) ?_)]
          unfold badRow; rw [Bool.or_eq_true]; exact .inl (decide_eq_true (by omega))
         ·refine .skip ?_
          refine AK.then_ (hK22 _ ?_)
          refine .sr fun _ hK25 => ?_
          refine .mv rfl ?_
          refine .v (.lenR sl41 rfl (by first | exact rdp | exact .arg (hNi k (by omega)))) ?_
          refine .mv rfl (.nt hK25 (.block ?_))
          refine AK.loopK (X := Nat) [(1, _), (3, _), (38, _), (39, _), (40, _), (49, _), (50, _)] (fun j => [(51, .int .i64 (j : Int))]) (fun j => [box bx1 32 4 [.int .i64 d.L, .int .i64 d.s, vF, vN]]) (fun j => j ≤ (d.nx.getD k []).length ∧ ((d.nx.getD k []).take j).any (badQ d.fin.length) = false) (fun j => (d.nx.getD k []).length - j) (0) slr ?_ ?_ ?_ ?_
          ·exact ⟨Nat.zero_le _, rfl⟩
          ·exact slr
          ·exact fun w hw => hw
          ·intro j hg1 _ hK26
           obtain ⟨hj, hg2⟩ := hg1
           refine .sr fun _ hK27 => ?_
           refine .v (.lss rfl rfl) ?_
           refine .nt hK27 ?_
           refine .seq fun _ hK28 => ?_
           refine AK.condD rfl (fun hc5 => ?_) (fun hc5 => ?_)
           ·refine .skip ?_
            refine AK.then_ (hK28 _ ?_)
            refine .seq fun _ hK29 => ?_
            refine .block ?_
            refine .sr fun _ hK30 => ?_
            first | refine .v (.iN sl41 rfl rfl (hr := (by first | exact rdp | exact .arg (hNi k (by omega))))) ?_ | refine .v (.iK sl41 rfl rfl (hr := (by first | exact rdp | exact .arg (hNi k (by omega))))) ?_
            refine .v (.loadI on3 rfl (by first | exact rdp | exact .arg (hNi k (by omega))) (by omega)) ?_
            refine .as rfl (.nt hK30 ?_)
            refine .sr fun _ hK31 => ?_
            refine .mv rfl ?_
            refine .v (.lss rfl rfl) ?_
            refine .mv rfl ?_
            refine AK.splitB (g := 57) rfl (fun hg_16_2 => ?_) (fun hg_16_2 => ?_)
            ·have hg_16_2' := hg_16_2
             try simp only [bs] at hg_16_2'
             refine AK.pass rfl rfl (hg_16_2) rfl ?_
             refine AK.pass rfl rfl (hg_16_2) rfl ?_
             refine AK.pass rfl rfl (hg_16_2) rfl ?_
             refine .v (.pickT rfl (hg_16_2) rfl) ?_
             refine .nt hK31 ?_
             refine AK.cond_t rfl (rfl) ?_
             refine .sr fun _ hK32 => ?_
             refine .as rfl (.nt hK32 (.ret (.block_ret (.then_ret (.then_ret (.block_ret (.block_ret (.then_ret (.then_ret (.block_ret (.then_ret ?_)))))))))))
             refine AK.ret1 rfl rfl (fun w hw => ⟨_, _, ?_, rfl, Ret.of (hw.pick [] (by decide) rfl rfl)⟩)
             refine ⟨congrArg (Value.int .i64) ?_, rfl⟩; unfold errV; rw [if_neg (by omega), if_neg (by omega), if_neg (by omega), if_pos (any_at _ [] (by omega : k < d.nx.length) ?_)]
             unfold badRow; rw [Bool.or_eq_true]; refine .inr (any_at _ 0 (by omega : j < (d.nx.getD k []).length) ?_); unfold badQ; rw [Bool.or_eq_true, decide_eq_true_eq, decide_eq_true_eq]; omega
            ·have hg_16_2' := hg_16_2
             try simp only [bs] at hg_16_2'
             refine AK.val _ (Yl.move rfl) ⟨_, rfl, congrArg (fun b => some (Value.bool b)) hg_16_2⟩ rfl ?_
             refine AK.val _ (Yl.move rfl) ⟨_, rfl, congrArg (fun b => some (Value.bool b)) hg_16_2⟩ rfl ?_
             refine AK.val _ (Yl.geq rfl rfl) ⟨_, rfl, congrArg (fun b => some (Value.bool b)) hg_16_2⟩ rfl ?_
             refine .v (.pickF rfl (hg_16_2) rfl) ?_
             refine .nt hK31 ?_
             refine AK.condD rfl (fun hc6 => ?_) (fun hc6 => ?_)
             ·refine .sr fun _ hK33 => ?_
              refine .as rfl (.nt hK33 (.ret (.block_ret (.then_ret (.then_ret (.block_ret (.block_ret (.then_ret (.then_ret (.block_ret (.then_ret ?_)))))))))))
              refine AK.ret1 rfl rfl (fun w hw => ⟨_, _, ?_, rfl, Ret.of (hw.pick [] (by decide) rfl rfl)⟩)
              refine ⟨congrArg (Value.int .i64) ?_, rfl⟩; unfold errV; rw [if_neg (by omega), if_neg (by omega), if_neg (by omega), if_pos (any_at _ [] (by omega : k < d.nx.length) ?_)]
              unfold badRow; rw [Bool.or_eq_true]; refine .inr (any_at _ 0 (by omega : j < (d.nx.getD k []).length) ?_); unfold badQ; rw [Bool.or_eq_true, decide_eq_true_eq, decide_eq_true_eq]; omega
             ·refine .skip (.block_normal ?_)
              refine AK.then_ (hK29 _ ?_)
              refine AK.region ?_
              refine .v (.add rfl rfl (by omega)) ?_
              refine .mv rfl (.nil ?_)
              refine AK.then_ (hK26 _ _ (j + 1) ⟨by omega, any_take_succ _ 0 (by omega) hg2 (by unfold badQ; rw [Bool.or_eq_false_iff, decide_eq_false_iff_not, decide_eq_false_iff_not]; omega)⟩ (by omega) (slr) (fun w hw => hw))
           ·refine .exit (.then_exit (.then_exit (.block_exit (.block_normal ?_))))
            refine AK.then_ (hK20 _ ?_)
            refine AK.region ?_
            refine .v (.add rfl rfl (by omega)) ?_
            refine .mv rfl (.nil ?_)
            refine AK.then_ (hK17 _ _ (k + 1) ⟨by omega, any_take_succ _ [] (by omega) hg1 (by unfold badRow; rw [show j = (d.nx.getD k []).length by omega, List.take_length] at hg2; rw [hg2, Bool.or_false]; exact decide_eq_false (by omega))⟩ (by omega) (slr) (fun w hw => hw))
        ·refine .exit (.then_exit (.then_exit (.block_exit ?_)))
         refine AK.then_ (hK15 _ ?_)
         refine .sr fun _ hK34 => ?_
         refine .as rfl (.nt hK34 (.ret ?_))
         refine AK.ret1 rfl rfl (fun w hw => ⟨_, _, ?_, rfl, Ret.of (hw.pick [] (by decide) rfl rfl)⟩)
         refine ⟨congrArg (Value.int .i64) ?_, rfl⟩; unfold errV; rw [if_neg (by omega), if_neg (by omega), if_neg (by omega), if_neg]; rw [show k = d.nx.length by omega, List.take_length] at hg1; rw [hg1]; exact Bool.false_ne_true

set_option maxRecDepth 100000 in
theorem s_refvalidate (w : World) (v : Value) (d : Dfa) (h : RdD (fun _ => False) w v d) : CallS Tryd.prog 29 [v] w (fun r o => r = .int .i64 (errV d) ∧ o = []) := by
 have h0 := h
 obtain ⟨vF, vN, rfl, hF, hN⟩ := h
 obtain ⟨rs, hrl, hNr, hNi⟩ := hN
 have sF := hF.sl
 have sN := hNr.sl
 have hmf := hF.le
 have hmn := hNr.le
 unfold RdL at hF
 refine spec_of Tryd.func29 rfl (Nat.le_of_ble_eq_true rfl) ?_
 refine .sr fun _ hK1 => ?_
 refine AK.box_ (E := 32) (cs := [.int .i64 d.L, .int .i64 d.s, vF, vN]) rfl rfl rfl trivial rfl (fun bx1 => ?_)
 refine .as rfl (.nt hK1 ?_)
 refine .sr fun _ hK2 => ?_
 refine .v (.fieldAddr fd32_2 rfl) ?_
 refine .v (.loadBox on29 rfl bsp rfl) ?_
 refine .v (.lenR sl29 rfl (by first | exact rdp | exact .arg (hNi k (by omega)))) ?_
 refine .as rfl (.nt hK2 ?_)
 refine .seq fun _ hK3 => ?_
 refine .sr fun _ hK4 => ?_
 refine .v (.fieldAddr fd32_0 rfl) ?_
 refine .v (.loadBox on3 rfl bsp rfl) ?_
 refine AK.call co18 rfl (fun w hw => s_may w d.L) trivial rfl ?_
 rintro r o ⟨rfl, rfl⟩
 refine .v (.not rfl) ?_
 refine .nt hK4 ?_
 refine AK.condB rfl (fun hc0 => ?_) (fun hc0 => ?_)
 ·rw [decide_eq_false_iff_not] at hc0
  refine .sr fun _ hK5 => ?_
  refine .as rfl (.nt hK5 (.ret (.then_ret ?_)))
  refine AK.ret1 rfl rfl (fun w hw => ⟨_, _, ?_, rfl, Ret.of (hw.pick [] (by decide) rfl rfl)⟩)
  refine ⟨congrArg (Value.int .i64) ?_, rfl⟩; unfold errV; rw [if_pos (by omega)]
 ·rw [decide_eq_true_eq] at hc0
  refine .skip ?_
  refine AK.then_ (hK3 _ ?_)
  refine .seq fun _ hK6 => ?_
  refine .sr fun _ hK7 => ?_
  refine .mv rfl ?_
  refine .v (.gtr rfl rfl) ?_
  refine .nt hK7 ?_
  refine AK.condD rfl (fun hc1 => ?_) (fun hc1 => ?_)
  ·refine .sr fun _ hK8 => ?_
   refine .as rfl (.nt hK8 (.ret (.then_ret ?_)))
   refine AK.ret1 rfl rfl (fun w hw => ⟨_, _, ?_, rfl, Ret.of (hw.pick [] (by decide) rfl rfl)⟩)
   refine ⟨congrArg (Value.int .i64) ?_, rfl⟩; unfold errV; rw [if_neg (by omega), if_pos (by omega)]
  ·refine .skip ?_
   refine AK.then_ (hK6 _ ?_)
   refine .seq fun _ hK9 => ?_
   refine .sr fun _ hK10 => ?_
   refine .mv rfl ?_
   refine .v (.eql rfl rfl) ?_
   refine .mv rfl ?_
   refine AK.splitB (g := 19) rfl (fun hg_6_2 => ?_) (fun hg_6_2 => ?_)
   ·have hg_6_2' := hg_6_2
    try simp only [bs] at hg_6_2'
    refine AK.pass rfl rfl (hg_6_2) rfl ?_
    refine AK.pass rfl rfl (hg_6_2) rfl ?_
    refine AK.pass rfl rfl (hg_6_2) rfl ?_
    refine AK.pass rfl rfl (hg_6_2) rfl ?_
    refine AK.pass rfl rfl (hg_6_2) rfl ?_
    refine .v (.pickT rfl (hg_6_2) rfl) ?_
    refine .mv rfl ?_
    refine AK.pass rfl rfl rfl rfl ?_
    refine AK.pass rfl rfl rfl rfl ?_
    refine AK.pass rfl rfl rfl rfl ?_
    refine .v (.pickT rfl (rfl) rfl) ?_
    refine .mv rfl ?_
    refine AK.pass rfl rfl rfl rfl ?_
    refine AK.pass rfl rfl rfl rfl ?_
    refine AK.pass rfl rfl rfl rfl ?_
    refine AK.pass rfl rfl rfl rfl ?_
    refine .v (.pickT rfl (rfl) rfl) ?_
    refine .nt hK10 ?_
    refine AK.cond_t rfl (rfl) ?_
    refine .sr fun _ hK11 => ?_
    refine .as rfl (.nt hK11 (.ret (.then_ret ?_)))
    refine AK.ret1 rfl rfl (fun w hw => ⟨_, _, ?_, rfl, Ret.of (hw.pick [] (by decide) rfl rfl)⟩)
    refine ⟨congrArg (Value.int .i64) ?_, rfl⟩; unfold errV; rw [if_neg (by omega), if_neg (by omega), if_pos (by omega)]
   ·have hg_6_2' := hg_6_2
    try simp only [bs] at hg_6_2'
    refine AK.val _ (Yl.fieldAddr fd32_3 rfl) ⟨_, rfl, congrArg (fun b => some (Value.bool b)) hg_6_2⟩ rfl ?_
    refine AK.val _ (Yl.loadBox on30 rfl bsp rfl) ⟨_, rfl, congrArg (fun b => some (Value.bool b)) hg_6_2⟩ rfl ?_
    refine AK.val _ (Yl.lenR sl30 rfl (by first | exact rdp | exact .arg (hNi k (by omega)))) ⟨_, rfl, congrArg (fun b => some (Value.bool b)) hg_6_2⟩ rfl ?_
    refine AK.val _ (Yl.move rfl) ⟨_, rfl, congrArg (fun b => some (Value.bool b)) hg_6_2⟩ rfl ?_
    refine AK.val _ (Yl.neq rfl rfl) ⟨_, rfl, congrArg (fun b => some (Value.bool b)) hg_6_2⟩ rfl ?_
    refine .v (.pickF rfl (hg_6_2) rfl) ?_
    refine .mv rfl ?_
    refine AK.splitB (g := 26) rfl (fun hg_6_9 => ?_) (fun hg_6_9 => ?_)
    ·have hg_6_9' := hg_6_9
     try simp only [bs] at hg_6_9'
     refine AK.pass rfl rfl (hg_6_9) rfl ?_
     refine AK.pass rfl rfl (hg_6_9) rfl ?_
     refine AK.pass rfl rfl (hg_6_9) rfl ?_
     refine .v (.pickT rfl (hg_6_9) rfl) ?_
     refine .mv rfl ?_
     refine AK.pass rfl rfl rfl rfl ?_
     refine AK.pass rfl rfl rfl rfl ?_
     refine AK.pass rfl rfl rfl rfl ?_
     refine AK.pass rfl rfl rfl rfl ?_
     refine .v (.pickT rfl (rfl) rfl) ?_
     refine .nt hK10 ?_
     refine AK.cond_t rfl (rfl) ?_
     refine .sr fun _ hK12 => ?_
     refine .as rfl (.nt hK12 (.ret (.then_ret ?_)))
     refine AK.ret1 rfl rfl (fun w hw => ⟨_, _, ?_, rfl, Ret.of (hw.pick [] (by decide) rfl rfl)⟩)
     refine ⟨congrArg (Value.int .i64) ?_, rfl⟩; unfold errV; rw [if_neg (by omega), if_neg (by omega), if_pos (by omega)]
    ·have hg_6_9' := hg_6_9
     try simp only [bs] at hg_6_9'
     refine AK.val _ (Yl.fieldAddr fd32_1 rfl) ⟨_, rfl, congrArg (fun b => some (Value.bool b)) hg_6_9⟩ rfl ?_
     refine AK.val _ (Yl.loadBox on3 rfl bsp rfl) ⟨_, rfl, congrArg (fun b => some (Value.bool b)) hg_6_9⟩ rfl ?_
     refine AK.val _ (Yl.lss rfl rfl) ⟨_, rfl, congrArg (fun b => some (Value.bool b)) hg_6_9⟩ rfl ?_
     refine .v (.pickF rfl (hg_6_9) rfl) ?_
     refine .mv rfl ?_
     refine AK.splitB (g := 31) rfl (fun hg_6_14 => ?_) (fun hg_6_14 => ?_)
     ·have hg_6_14' := hg_6_14
      try simp only [bs] at hg_6_14'
      refine AK.pass rfl rfl (hg_6_14) rfl ?_
      refine AK.pass rfl rfl (hg_6_14) rfl ?_
      refine AK.pass rfl rfl (hg_6_14) rfl ?_
      refine AK.pass rfl rfl (hg_6_14) rfl ?_
      refine .v (.pickT rfl (hg_6_14) rfl) ?_
      refine .nt hK10 ?_
      refine AK.cond_t rfl (rfl) ?_
      refine .sr fun _ hK13 => ?_
      refine .as rfl (.nt hK13 (.ret (.then_ret ?_)))
      refine AK.ret1 rfl rfl (fun w hw => ⟨_, _, ?_, rfl, Ret.of (hw.pick [] (by decide) rfl rfl)⟩)
      refine ⟨congrArg (Value.int .i64) ?_, rfl⟩; unfold errV; rw [if_neg (by omega), if_neg (by omega), if_pos (by omega)]
     ·have hg_6_14' := hg_6_14
      try simp only [bs] at hg_6_14'
      refine AK.val _ (Yl.fieldAddr fd32_1 rfl) ⟨_, rfl, congrArg (fun b => some (Value.bool b)) hg_6_14⟩ rfl ?_
      refine AK.val _ (Yl.loadBox on3 rfl bsp rfl) ⟨_, rfl, congrArg (fun b => some (Value.bool b)) hg_6_14⟩ rfl ?_
      refine AK.val _ (Yl.move rfl) ⟨_, rfl, congrArg (fun b => some (Value.bool b)) hg_6_14⟩ rfl ?_
      refine AK.val _ (Yl.geq rfl rfl) ⟨_, rfl, congrArg (fun b => some (Value.bool b)) hg_6_14⟩ rfl ?_
      refine .v (.pickF rfl (hg_6_14) rfl) ?_
      refine .nt hK10 ?_
      refine AK.condD rfl (fun hc2 => ?_) (fun hc2 => ?_)
      ·refine .sr fun _ hK14 => ?_
       refine .as rfl (.nt hK14 (.ret (.then_ret ?_)))
       refine AK.ret1 rfl rfl (fun w hw => ⟨_, _, ?_, rfl, Ret.of (hw.pick [] (by decide) rfl rfl)⟩)
       refine ⟨congrArg (Value.int .i64) ?_, rfl⟩; unfold errV; rw [if_neg (by omega), if_neg (by omega), if_pos (by omega)]
      ·refine .skip ?_
       refine AK.then_ (hK9 _ ?_)
       refine .seq fun _ hK15 => ?_
       refine .sr fun _ hK16 => ?_
       refine .v (.fieldAddr fd32_3 rfl) ?_
       refine .v (.loadBox on30 rfl bsp rfl) ?_
       refine .v (.lenR sl30 rfl (by first | exact rdp | exact .arg (hNi k (by omega)))) ?_
       refine .mv rfl (.nt hK16 (.block ?_))
       refine AK.loopK (X := Nat) [(1, _), (3, _), (38, _), (39, _)] (fun k => [(40, .int .i64 (k : Int))]) (fun k => [box bx1 32 4 [.int .i64 d.L, .int .i64 d.s, vF, vN]]) (fun k => k ≤ d.nx.length ∧ (d.nx.take k).any (badRow d.fin.length d.L) = false) (fun k => d.nx.length - k) (0) slr ?_ ?_ ?_ ?_
       ·exact ⟨Nat.zero_le _, rfl⟩
       ·exact slr
       ·exact fun w hw => hw
       ·intro k hg0 _ hK17
        obtain ⟨hk, hg1⟩ := hg0
        have hrk := fun hk1 => (hNi k hk1).le
        refine .sr fun _ hK18 => ?_
        refine .v (.lss rfl rfl) ?_
        refine .nt hK18 ?_
        refine .seq fun _ hK19 => ?_
        refine AK.condD rfl (fun hc3 => ?_) (fun hc3 => ?_)
        ·refine .skip ?_
         refine AK.then_ (hK19 _ ?_)
         refine .seq fun _ hK20 => ?_
         refine .block ?_
         refine .sr fun _ hK21 => ?_
         first | refine .v (.iN sl30 rfl rfl (hr := (by first | exact rdp | exact .arg (hNi k (by omega))))) ?_ | refine .v (.iK sl30 rfl rfl (hr := (by first | exact rdp | exact .arg (hNi k (by omega))))) ?_
         refine .v (.loadV on41 rfl (by first | exact rdp | exact .arg (hNi k (by omega))) (by omega)) ?_
         refine .as rfl (.nt hK21 ?_)
         refine .seq fun _ hK22 => ?_
         refine .sr fun _ hK23 => ?_
         refine .mv rfl ?_
         refine .v (.lenR sl41 rfl (by first | exact rdp | exact .arg (hNi k (by omega)))) ?_
         refine .v (.fieldAddr fd32_0 rfl) ?_
         refine .v (.loadBox on3 rfl bsp rfl) ?_
         refine .v (.neq rfl rfl) ?_
         refine .nt hK23 ?_
         refine AK.condNe rfl (fun hc4 => ?_) (fun hc4 => ?_)
         ·refine .sr fun _ hK24 => ?_
          refine .as rfl (.nt hK24 (.ret (.then_ret (.block_ret (.then_ret (.then_ret (.block_ret (.then_ret ?_))))))))
          refine AK.ret1 rfl rfl (fun w hw => ⟨_, _, ?_, rfl, Ret.of (hw.pick [] (by decide) rfl rfl)⟩)
          refine ⟨congrArg (Value.int .i64) ?_, rfl⟩; unfold errV; rw [if_neg (by omega), if_neg (by omega), if_neg (by omega), if_pos (any_at _ [] (by omega : k < d.nx.length) ?_)]
          unfold badRow; rw [Bool.or_eq_true]; exact .inl (decide_eq_true (by omega))
         ·refine .skip ?_
          refine AK.then_ (hK22 _ ?_)
          refine .sr fun _ hK25 => ?_
          refine .mv rfl ?_
          refine .v (.lenR sl41 rfl (by first | exact rdp | exact .arg (hNi k (by omega)))) ?_
          refine .mv rfl (.nt hK25 (.block ?_))
          refine AK.loopK (X := Nat) [(1, _), (3, _), (38, _), (39, _), (40, _), (49, _), (50, _)] (fun j => [(51, .int .i64 (j : Int))]) (fun j => [box bx1 32 4 [.int .i64 d.L, .int .i64 d.s, vF, vN]]) (fun j => j ≤ (d.nx.getD k []).length ∧ ((d.nx.getD k []).take j).any (badQ d.fin.length) = false) (fun j => (d.nx.getD k []).length - j) (0) slr ?_ ?_ ?_ ?_
          ·exact ⟨Nat.zero_le _, rfl⟩
          ·exact slr
          ·exact fun w hw => hw
          ·intro j hg1 _ hK26
           obtain ⟨hj, hg2⟩ := hg1
           refine .sr fun _ hK27 => ?_
           refine .v (.lss rfl rfl) ?_
           refine .nt hK27 ?_
           refine .seq fun _ hK28 => ?_
           refine AK.condD rfl (fun hc5 => ?_) (fun hc5 => ?_)
           ·refine .skip ?_
            refine AK.then_ (hK28 _ ?_)
            refine .seq fun _ hK29 => ?_
            refine .block ?_
            refine .sr fun _ hK30 => ?_
            first | refine .v (.iN sl41 rfl rfl (hr := (by first | exact rdp | exact .arg (hNi k (by omega))))) ?_ | refine .v (.iK sl41 rfl rfl (hr := (by first | exact rdp | exact .arg (hNi k (by omega))))) ?_
            refine .v (.loadI on3 rfl (by first | exact rdp | exact .arg (hNi k (by omega))) (by omega)) ?_
            refine .as rfl (.nt hK30 ?_)
            refine .sr fun _ hK31 => ?_
            refine .mv rfl ?_
            refine .v (.lss rfl rfl) ?_
            refine .mv rfl ?_
            refine AK.splitB (g := 57) rfl (fun hg_16_2 => ?_) (fun hg_16_2 => ?_)
            ·have hg_16_2' := hg_16_2
             try simp only [bs] at hg_16_2'
             refine AK.pass rfl rfl (hg_16_2) rfl ?_
             refine AK.pass rfl rfl (hg_16_2) rfl ?_
             refine AK.pass rfl rfl (hg_16_2) rfl ?_
             refine .v (.pickT rfl (hg_16_2) rfl) ?_
             refine .nt hK31 ?_
             refine AK.cond_t rfl (rfl) ?_
             refine .sr fun _ hK32 => ?_
             refine .as rfl (.nt hK32 (.ret (.block_ret (.then_ret (.then_ret (.block_ret (.block_ret (.then_ret (.then_ret (.block_ret (.then_ret ?_)))))))))))
             refine AK.ret1 rfl rfl (fun w hw => ⟨_, _, ?_, rfl, Ret.of (hw.pick [] (by decide) rfl rfl)⟩)
             refine ⟨congrArg (Value.int .i64) ?_, rfl⟩; unfold errV; rw [if_neg (by omega), if_neg (by omega), if_neg (by omega), if_pos (any_at _ [] (by omega : k < d.nx.length) ?_)]
             unfold badRow; rw [Bool.or_eq_true]; refine .inr (any_at _ 0 (by omega : j < (d.nx.getD k []).length) ?_); unfold badQ; rw [Bool.or_eq_true, decide_eq_true_eq, decide_eq_true_eq]; omega
            ·have hg_16_2' := hg_16_2
             try simp only [bs] at hg_16_2'
             refine AK.val _ (Yl.move rfl) ⟨_, rfl, congrArg (fun b => some (Value.bool b)) hg_16_2⟩ rfl ?_
             refine AK.val _ (Yl.move rfl) ⟨_, rfl, congrArg (fun b => some (Value.bool b)) hg_16_2⟩ rfl ?_
             refine AK.val _ (Yl.geq rfl rfl) ⟨_, rfl, congrArg (fun b => some (Value.bool b)) hg_16_2⟩ rfl ?_
             refine .v (.pickF rfl (hg_16_2) rfl) ?_
             refine .nt hK31 ?_
             refine AK.condD rfl (fun hc6 => ?_) (fun hc6 => ?_)
             ·refine .sr fun _ hK33 => ?_
              refine .as rfl (.nt hK33 (.ret (.block_ret (.then_ret (.then_ret (.block_ret (.block_ret (.then_ret (.then_ret (.block_ret (.then_ret ?_)))))))))))
              refine AK.ret1 rfl rfl (fun w hw => ⟨_, _, ?_, rfl, Ret.of (hw.pick [] (by decide) rfl rfl)⟩)
              refine ⟨congrArg (Value.int .i64) ?_, rfl⟩; unfold errV; rw [if_neg (by omega), if_neg (by omega), if_neg (by omega), if_pos (any_at _ [] (by omega : k < d.nx.length) ?_)]
              unfold badRow; rw [Bool.or_eq_true]; refine .inr (any_at _ 0 (by omega : j < (d.nx.getD k []).length) ?_); unfold badQ; rw [Bool.or_eq_true, decide_eq_true_eq, decide_eq_true_eq]; omega
             ·refine .skip (.block_normal ?_)
              refine AK.then_ (hK29 _ ?_)
              refine AK.region ?_
              refine .v (.add rfl rfl (by omega)) ?_
              refine .mv rfl (.nil ?_)
              refine AK.then_ (hK26 _ _ (j + 1) ⟨by omega, any_take_succ _ 0 (by omega) hg2 (by unfold badQ; rw [Bool.or_eq_false_iff, decide_eq_false_iff_not, decide_eq_false_iff_not]; omega)⟩ (by omega) (slr) (fun w hw => hw))
           ·refine .exit (.then_exit (.then_exit (.block_exit (.block_normal ?_))))
            refine AK.then_ (hK20 _ ?_)
            refine AK.region ?_
            refine .v (.add rfl rfl (by omega)) ?_
            refine .mv rfl (.nil ?_)
            refine AK.then_ (hK17 _ _ (k + 1) ⟨by omega, any_take_succ _ [] (by omega) hg1 (by unfold badRow; rw [show j = (d.nx.getD k []).length by omega, List.take_length] at hg2; rw [hg2, Bool.or_false]; exact decide_eq_false (by omega))⟩ (by omega) (slr) (fun w hw => hw))
        ·refine .exit (.then_exit (.then_exit (.block_exit ?_)))
         refine AK.then_ (hK15 _ ?_)
         refine .sr fun _ hK34 => ?_
         refine .as rfl (.nt hK34 (.ret ?_))
         refine AK.ret1 rfl rfl (fun w hw => ⟨_, _, ?_, rfl, Ret.of (hw.pick [] (by decide) rfl rfl)⟩)
         refine ⟨congrArg (Value.int .i64) ?_, rfl⟩; unfold errV; rw [if_neg (by omega), if_neg (by omega), if_neg (by omega), if_neg]; rw [show k = d.nx.length by omega, List.take_length] at hg1; rw [hg1]; exact Bool.false_ne_true

end Go.Proofs.YtckicbgffhbacaaDoor
