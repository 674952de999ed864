import Derived.Test.YtdnhiinakhmhgaaGreatDoorYZe
import Derived.Test.YtdnhiinakhmhgaaGreatDoorYZc
import Derived.Test.YtdnhiinakhmhgaaGreatDoorYZk
set_option linter.unusedVariables false
set_option linter.unusedSimpArgs false
set_option maxRecDepth 100000
namespace Go.Proofs.YtdnhiinakhmhgaaGreatDoor
open Go.Sx Go.RowKit
theorem s_validate (w : World) (v : Value) (d : Dfa) (h : RdD (fun _ => False) w v d) : CallS Tryz.prog 22 [v] w (fun r o => r = .int .i64 (errV d) ∧ o = []) := by
 have h0 := h
 obtain ⟨vF, vN, rfl, hF, hN⟩ := h
 obtain ⟨rs, hrl, hNr, hNi⟩ := hN
 have sF := hF.sl
 have sN := hNr.sl
 have hmf := hF.le
 have hmn := hNr.le
 unfold RdL at hF
 refine spec_of Tryz.func22 rfl (leb rfl) ?_
 refine .sr fun _ hK1 => ?_
 refine AK.box_ (E := 43) (cs := [.int .i64 d.L, .int .i64 d.s, vF, vN]) rfl rfl rfl trivial rfl (fun bx1 => ?_)
 refine .as rfl (.nt hK1 ?_)
 refine .seq fun _ hK2 => ?_
 refine .sr fun _ hK3 => ?_
 refine .v (.fieldAddr fd43_0 rfl) (.v (.loadBox on3 rfl bsp rfl) (.v (.lss rfl rfl) (.mv rfl ?_)))
 refine AK.splitB (g := 11) rfl (fun hg_1_3 => ?_) (fun hg_1_3 => ?_)
 ·have hg_1_3' := hg_1_3
  try simp only [bs] at hg_1_3'
  refine AK.pass rfl rfl (hg_1_3) rfl ?_
  refine AK.pass rfl rfl (hg_1_3) rfl ?_
  refine AK.pass rfl rfl (hg_1_3) rfl ?_
  refine .v (.pickT rfl (hg_1_3) rfl) (.nt hK3 ?_)
  refine AK.cond_t rfl (rfl) ?_
  refine .sr fun _ hK4 => ?_
  refine .as rfl (.nt hK4 (.ret (.then_ret ?_)))
  refine AK.ret1 rfl rfl (fun w hw => ⟨_, _, ?_, rfl, Ret.of (hw.pick [] (by decide) rfl rfl)⟩)
  refine ⟨congrArg (Value.int .i64) ?_, rfl⟩; unfold errV; rw [if_pos (by omega)]
 ·have hg_1_3' := hg_1_3
  try simp only [bs] at hg_1_3'
  refine AK.val _ (Yl.fieldAddr fd43_0 rfl) ⟨_, rfl, gB hg_1_3⟩ rfl ?_
  refine AK.val _ (Yl.loadBox on3 rfl bsp rfl) ⟨_, rfl, gB hg_1_3⟩ rfl ?_
  refine AK.val _ (Yl.gtr rfl rfl) ⟨_, rfl, gB hg_1_3⟩ rfl ?_
  refine .v (.pickF rfl (hg_1_3) rfl) (.nt hK3 ?_)
  refine AK.condD rfl (fun hc0 => ?_) (fun hc0 => ?_)
  ·refine .sr fun _ hK5 => ?_
   refine .as rfl (.nt hK5 (.ret (.then_ret ?_)))
   refine AK.ret1 rfl rfl (fun w hw => ⟨_, _, ?_, rfl, Ret.of (hw.pick [] (by decide) rfl rfl)⟩)
   refine ⟨congrArg (Value.int .i64) ?_, rfl⟩; unfold errV; rw [if_pos (by omega)]
  ·refine .skip ?_
   refine AK.then_ (hK2 _ ?_)
   refine .sr fun _ hK6 => ?_
   refine .v (.fieldAddr fd43_2 rfl) (.v (.loadBox on41 rfl bsp rfl) ?_)
   refine .v (.lenR sl41 rfl (by first | exact rdp | exact .arg (hNi k (by omega)))) ?_
   refine .as rfl (.nt hK6 ?_)
   refine .seq fun _ hK7 => ?_
   refine .sr fun _ hK8 => ?_
   refine .mv rfl (.v (.gtr rfl rfl) (.nt hK8 ?_))
   refine AK.condD rfl (fun hc1 => ?_) (fun hc1 => ?_)
   ·refine .sr fun _ hK9 => ?_
    refine .as rfl (.nt hK9 (.ret (.then_ret ?_)))
    refine AK.ret1 rfl rfl (fun w hw => ⟨_, _, ?_, rfl, Ret.of (hw.pick [] (by decide) rfl rfl)⟩)
    refine ⟨congrArg (Value.int .i64) ?_, rfl⟩; unfold errV; rw [if_neg (by omega), if_pos (by omega)]
   ·refine .skip ?_
    refine AK.then_ (hK7 _ ?_)
    refine .seq fun _ hK10 => ?_
    refine .sr fun _ hK11 => ?_
    refine .v (.fieldAddr fd43_3 rfl) (.v (.loadBox on22 rfl bsp rfl) ?_)
    refine .v (.lenR sl22 rfl (by first | exact rdp | exact .arg (hNi k (by omega)))) ?_
    refine .mv rfl (.v (.neq rfl rfl) (.mv rfl ?_))
    refine AK.splitB (g := 26) rfl (fun hg_6_5 => ?_) (fun hg_6_5 => ?_)
    ·have hg_6_5' := hg_6_5
     try simp only [bs] at hg_6_5'
     refine AK.pass rfl rfl (hg_6_5) rfl ?_
     refine AK.pass rfl rfl (hg_6_5) rfl ?_
     refine AK.pass rfl rfl (hg_6_5) rfl ?_
     refine .v (.pickT rfl (hg_6_5) rfl) (.mv rfl ?_)
     refine AK.pass rfl rfl rfl rfl ?_
     refine AK.pass rfl rfl rfl rfl ?_
     refine AK.pass rfl rfl rfl rfl ?_
     refine AK.pass rfl rfl rfl rfl ?_
     refine .v (.pickT rfl (rfl) rfl) (.nt hK11 ?_)
     refine AK.cond_t rfl (rfl) ?_
     refine .sr fun _ hK12 => ?_
     refine .as rfl (.nt hK12 (.ret (.then_ret ?_)))
     refine AK.ret1 rfl rfl (fun w hw => ⟨_, _, ?_, rfl, Ret.of (hw.pick [] (by decide) rfl rfl)⟩)
     refine ⟨congrArg (Value.int .i64) ?_, rfl⟩; unfold errV; rw [if_neg (by omega), if_neg (by omega), if_pos (by omega)]
    ·have hg_6_5' := hg_6_5
     try simp only [bs] at hg_6_5'
     refine AK.val _ (Yl.fieldAddr fd43_1 rfl) ⟨_, rfl, gB hg_6_5⟩ rfl ?_
     refine AK.val _ (Yl.loadBox on3 rfl bsp rfl) ⟨_, rfl, gB hg_6_5⟩ rfl ?_
     refine AK.val _ (Yl.lss rfl rfl) ⟨_, rfl, gB hg_6_5⟩ rfl ?_
     refine .v (.pickF rfl (hg_6_5) rfl) (.mv rfl ?_)
     refine AK.splitB (g := 31) rfl (fun hg_6_10 => ?_) (fun hg_6_10 => ?_)
     ·have hg_6_10' := hg_6_10
      try simp only [bs] at hg_6_10'
      refine AK.pass rfl rfl (hg_6_10) rfl ?_
      refine AK.pass rfl rfl (hg_6_10) rfl ?_
      refine AK.pass rfl rfl (hg_6_10) rfl ?_
      refine AK.pass rfl rfl (hg_6_10) rfl ?_
      refine .v (.pickT rfl (hg_6_10) rfl) (.nt hK11 ?_)
      refine AK.cond_t rfl (rfl) ?_
      refine .sr fun _ hK13 => ?_
      refine .as rfl (.nt hK13 (.ret (.then_ret ?_)))
      refine AK.ret1 rfl rfl (fun w hw => ⟨_, _, ?_, rfl, Ret.of (hw.pick [] (by decide) rfl rfl)⟩)
      refine ⟨congrArg (Value.int .i64) ?_, rfl⟩; unfold errV; rw [if_neg (by omega), if_neg (by omega), if_pos (by omega)]
     ·have hg_6_10' := hg_6_10
      try simp only [bs] at hg_6_10'
      refine AK.val _ (Yl.fieldAddr fd43_1 rfl) ⟨_, rfl, gB hg_6_10⟩ rfl ?_
      refine AK.val _ (Yl.loadBox on3 rfl bsp rfl) ⟨_, rfl, gB hg_6_10⟩ rfl ?_
      refine AK.val _ (Yl.move rfl) ⟨_, rfl, gB hg_6_10⟩ rfl ?_
      refine AK.val _ (Yl.geq rfl rfl) ⟨_, rfl, gB hg_6_10⟩ rfl ?_
      refine .v (.pickF rfl (hg_6_10) rfl) (.nt hK11 ?_)
      refine AK.condD rfl (fun hc2 => ?_) (fun hc2 => ?_)
      ·refine .sr fun _ hK14 => ?_
       refine .as rfl (.nt hK14 (.ret (.then_ret ?_)))
       refine AK.ret1 rfl rfl (fun w hw => ⟨_, _, ?_, rfl, Ret.of (hw.pick [] (by decide) rfl rfl)⟩)
       refine ⟨congrArg (Value.int .i64) ?_, rfl⟩; unfold errV; rw [if_neg (by omega), if_neg (by omega), if_pos (by omega)]
      ·refine .skip ?_
       refine AK.then_ (hK10 _ ?_)
       refine .seq fun _ hK15 => ?_
       refine .sr fun _ hK16 => ?_
       refine .v (.fieldAddr fd43_3 rfl) (.v (.loadBox on22 rfl bsp rfl) ?_)
       refine .v (.lenR sl22 rfl (by first | exact rdp | exact .arg (hNi k (by omega)))) ?_
       refine .mv rfl (.nt hK16 (.block ?_))
       refine AK.loopK (X := Nat) [(1, _), (3, _), (38, _), (39, _)] (fun k => [(40, .int .i64 (k : Int))]) (fun k => [box bx1 43 4 [.int .i64 d.L, .int .i64 d.s, vF, vN]]) (fun k => k ≤ d.nx.length ∧ (d.nx.take k).any (badRow d.fin.length d.L) = false) (fun k => d.nx.length - k) (0) slr ?_ ?_ ?_ ?_
       ·exact ⟨Nat.zero_le _, rfl⟩
       ·exact slr
       ·exact fun w hw => hw
       ·intro k hg0 _ hK17
        obtain ⟨hk, hg1⟩ := hg0
        have hrk := fun hk1 => (hNi k hk1).le
        refine .sr fun _ hK18 => ?_
        refine .v (.lss rfl rfl) (.nt hK18 ?_)
        refine .seq fun _ hK19 => ?_
        refine AK.condD rfl (fun hc3 => ?_) (fun hc3 => ?_)
        ·refine .skip ?_
         refine AK.then_ (hK19 _ ?_)
         refine .seq fun _ hK20 => ?_
         refine .block ?_
         refine .sr fun _ hK21 => ?_
         first | refine .v (.iN sl22 rfl rfl (hr := (by first | exact rdp | exact .arg (hNi k (by omega))))) ?_ | refine .v (.iK sl22 rfl rfl (hr := (by first | exact rdp | exact .arg (hNi k (by omega))))) ?_
         refine .v (.loadV on26 rfl (by first | exact rdp | exact .arg (hNi k (by omega))) (by omega)) ?_
         refine .as rfl (.nt hK21 ?_)
         refine .seq fun _ hK22 => ?_
         refine .sr fun _ hK23 => ?_
         refine .mv rfl ?_
         refine .v (.lenR sl26 rfl (by first | exact rdp | exact .arg (hNi k (by omega)))) ?_
         refine .v (.fieldAddr fd43_0 rfl) (.v (.loadBox on3 rfl bsp rfl) (.v (.neq rfl rfl) (.nt hK23 ?_)))
         refine AK.condNe rfl (fun hc4 => ?_) (fun hc4 => ?_)
         ·refine .sr fun _ hK24 => ?_
          refine .as rfl (.nt hK24 (.ret (.then_ret (.block_ret (.then_ret (.then_ret (.block_ret (.then_ret ?_))))))))
          refine AK.ret1 rfl rfl (fun w hw => ⟨_, _, ?_, rfl, Ret.of (hw.pick [] (by decide) rfl rfl)⟩)
          refine ⟨congrArg (Value.int .i64) ?_, rfl⟩; unfold errV; rw [if_neg (by omega), if_neg (by omega), if_neg (by omega), if_pos (any_at _ [] (by omega : k < d.nx.length) ?_)]
          unfold badRow; rw [Bool.or_eq_true]; exact .inl (decide_eq_true (by omega))
         ·refine .skip ?_
          refine AK.then_ (hK22 _ ?_)
          refine .sr fun _ hK25 => ?_
          refine .mv rfl ?_
          refine .v (.lenR sl26 rfl (by first | exact rdp | exact .arg (hNi k (by omega)))) ?_
          refine .mv rfl (.nt hK25 (.block ?_))
          refine AK.loopK (X := Nat) [(1, _), (3, _), (38, _), (39, _), (40, _), (49, _), (50, _)] (fun j => [(51, .int .i64 (j : Int))]) (fun j => [box bx1 43 4 [.int .i64 d.L, .int .i64 d.s, vF, vN]]) (fun j => j ≤ (d.nx.getD k []).length ∧ ((d.nx.getD k []).take j).any (badQ d.fin.length) = false) (fun j => (d.nx.getD k []).length - j) (0) slr ?_ ?_ ?_ ?_
          ·exact ⟨Nat.zero_le _, rfl⟩
          ·exact slr
          ·exact fun w hw => hw
          ·intro j hg1 _ hK26
           obtain ⟨hj, hg2⟩ := hg1
           refine .sr fun _ hK27 => ?_
           refine .v (.lss rfl rfl) (.nt hK27 ?_)
           refine .seq fun _ hK28 => ?_
           refine AK.condD rfl (fun hc5 => ?_) (fun hc5 => ?_)
           ·refine .skip ?_
            refine AK.then_ (hK28 _ ?_)
            refine .seq fun _ hK29 => ?_
            refine .block ?_
            refine .sr fun _ hK30 => ?_
            first | refine .v (.iN sl26 rfl rfl (hr := (by first | exact rdp | exact .arg (hNi k (by omega))))) ?_ | refine .v (.iK sl26 rfl rfl (hr := (by first | exact rdp | exact .arg (hNi k (by omega))))) ?_
            refine .v (.loadI on3 rfl (by first | exact rdp | exact .arg (hNi k (by omega))) (by omega)) ?_
            refine .as rfl (.nt hK30 ?_)
            refine .sr fun _ hK31 => ?_
            refine .mv rfl (.v (.lss rfl rfl) (.mv rfl ?_))
            refine AK.splitB (g := 57) rfl (fun hg_16_2 => ?_) (fun hg_16_2 => ?_)
            ·have hg_16_2' := hg_16_2
             try simp only [bs] at hg_16_2'
             refine AK.pass rfl rfl (hg_16_2) rfl ?_
             refine AK.pass rfl rfl (hg_16_2) rfl ?_
             refine AK.pass rfl rfl (hg_16_2) rfl ?_
             refine .v (.pickT rfl (hg_16_2) rfl) (.nt hK31 ?_)
             refine AK.cond_t rfl (rfl) ?_
             refine .sr fun _ hK32 => ?_
             refine .as rfl (.nt hK32 (.ret (.block_ret (.then_ret (.then_ret (.block_ret (.block_ret (.then_ret (.then_ret (.block_ret (.then_ret ?_)))))))))))
             refine AK.ret1 rfl rfl (fun w hw => ⟨_, _, ?_, rfl, Ret.of (hw.pick [] (by decide) rfl rfl)⟩)
             refine ⟨congrArg (Value.int .i64) ?_, rfl⟩; unfold errV; rw [if_neg (by omega), if_neg (by omega), if_neg (by omega), if_pos (any_at _ [] (by omega : k < d.nx.length) ?_)]
             unfold badRow; rw [Bool.or_eq_true]; refine .inr (any_at _ 0 (by omega : j < (d.nx.getD k []).length) ?_); unfold badQ; rw [Bool.or_eq_true, decide_eq_true_eq, decide_eq_true_eq]; omega
            ·have hg_16_2' := hg_16_2
             try simp only [bs] at hg_16_2'
             refine AK.val _ (Yl.move rfl) ⟨_, rfl, gB hg_16_2⟩ rfl ?_
             refine AK.val _ (Yl.move rfl) ⟨_, rfl, gB hg_16_2⟩ rfl ?_
             refine AK.val _ (Yl.geq rfl rfl) ⟨_, rfl, gB hg_16_2⟩ rfl ?_
             refine .v (.pickF rfl (hg_16_2) rfl) (.nt hK31 ?_)
             refine AK.condD rfl (fun hc6 => ?_) (fun hc6 => ?_)
             ·refine .sr fun _ hK33 => ?_
              refine .as rfl (.nt hK33 (.ret (.block_ret (.then_ret (.then_ret (.block_ret (.block_ret (.then_ret (.then_ret (.block_ret (.then_ret ?_)))))))))))
              refine AK.ret1 rfl rfl (fun w hw => ⟨_, _, ?_, rfl, Ret.of (hw.pick [] (by decide) rfl rfl)⟩)
              refine ⟨congrArg (Value.int .i64) ?_, rfl⟩; unfold errV; rw [if_neg (by omega), if_neg (by omega), if_neg (by omega), if_pos (any_at _ [] (by omega : k < d.nx.length) ?_)]
              unfold badRow; rw [Bool.or_eq_true]; refine .inr (any_at _ 0 (by omega : j < (d.nx.getD k []).length) ?_); unfold badQ; rw [Bool.or_eq_true, decide_eq_true_eq, decide_eq_true_eq]; omega
             ·refine .skip (.block_normal ?_)
              refine AK.then_ (hK29 _ ?_)
              refine AK.region ?_
              refine .v (.add rfl rfl (by omega)) ?_
              refine .mv rfl (.nil ?_)
              refine AK.then_ (hK26 _ _ (j + 1) ⟨by omega, any_take_succ _ 0 (by omega) hg2 (by unfold badQ; rw [Bool.or_eq_false_iff, decide_eq_false_iff_not, decide_eq_false_iff_not]; omega)⟩ (by omega) (slr) (fun w hw => hw))
           ·refine .exit (.then_exit (.then_exit (.block_exit (.block_normal ?_))))
            refine AK.then_ (hK20 _ ?_)
            refine AK.region ?_
            refine .v (.add rfl rfl (by omega)) ?_
            refine .mv rfl (.nil ?_)
            refine AK.then_ (hK17 _ _ (k + 1) ⟨by omega, any_take_succ _ [] (by omega) hg1 (by unfold badRow; rw [show j = (d.nx.getD k []).length by omega, List.take_length] at hg2; rw [hg2, Bool.or_false]; exact decide_eq_false (by omega))⟩ (by omega) (slr) (fun w hw => hw))
        ·refine .exit (.then_exit (.then_exit (.block_exit ?_)))
         refine AK.then_ (hK15 _ ?_)
         refine .sr fun _ hK34 => ?_
         refine .as rfl (.nt hK34 (.ret ?_))
         refine AK.ret1 rfl rfl (fun w hw => ⟨_, _, ?_, rfl, Ret.of (hw.pick [] (by decide) rfl rfl)⟩)
         refine ⟨congrArg (Value.int .i64) ?_, rfl⟩; unfold errV; rw [if_neg (by omega), if_neg (by omega), if_neg (by omega), if_neg]; rw [show k = d.nx.length by omega, List.take_length] at hg1; rw [hg1]; exact Bool.false_ne_true

end Go.Proofs.YtdnhiinakhmhgaaGreatDoor

namespace Go.Proofs.YtdnhiinakhmhgaaGreatDoor
open Go.Sx Go.RowKit
theorem s_wvalid (w : World) (l : List UInt8) (L : Int) (hm : l.length ≤ 9223372036854775807) : CallS Tryz.prog 42 [sv l, .int .i64 L] w (fun r o => r = .bool (validW L l) ∧ o = []) := by
 refine spec_of Tryz.func42 rfl (leb rfl) ?_
 refine .sr fun _ hK1 => ?_
 refine .as rfl (.nt hK1 ?_)
 refine .seq fun _ hK2 => ?_
 refine .sr fun _ hK3 => ?_
 refine .mv rfl (.v (.lss rfl rfl) (.mv rfl ?_))
 refine AK.splitB (g := 8) rfl (fun hg_1_2 => ?_) (fun hg_1_2 => ?_)
 ·have hg_1_2' := hg_1_2
  try simp only [bs] at hg_1_2'
  refine AK.pass rfl rfl (hg_1_2) rfl ?_
  refine AK.pass rfl rfl (hg_1_2) rfl ?_
  refine .v (.pickT rfl (hg_1_2) rfl) (.mv rfl ?_)
  refine AK.pass rfl rfl rfl rfl ?_
  refine AK.pass rfl rfl rfl rfl ?_
  refine AK.pass rfl rfl rfl rfl ?_
  refine .v (.pickT rfl (rfl) rfl) (.nt hK3 ?_)
  refine AK.cond_t rfl (rfl) ?_
  refine .sr fun _ hK4 => ?_
  refine .as rfl (.nt hK4 (.ret (.then_ret ?_)))
  refine AK.ret1 rfl rfl (fun w hw => ⟨_, _, ?_, rfl, Ret.of (hw.pick [] (by decide) rfl rfl)⟩)
  refine ⟨congrArg Value.bool ?_, rfl⟩
  symm; unfold validW; rw [decide_eq_false (by omega), Bool.false_and]
 ·have hg_1_2' := hg_1_2
  try simp only [bs] at hg_1_2'
  refine AK.val _ (Yl.move rfl) ⟨_, rfl, gB hg_1_2⟩ rfl ?_
  refine AK.val _ (Yl.gtr rfl rfl) ⟨_, rfl, gB hg_1_2⟩ rfl ?_
  refine .v (.pickF rfl (hg_1_2) rfl) (.mv rfl ?_)
  refine AK.splitB (g := 12) rfl (fun hg_1_6 => ?_) (fun hg_1_6 => ?_)
  ·have hg_1_6' := hg_1_6
   try simp only [bs] at hg_1_6'
   refine AK.pass rfl rfl (hg_1_6) rfl ?_
   refine AK.pass rfl rfl (hg_1_6) rfl ?_
   refine AK.pass rfl rfl (hg_1_6) rfl ?_
   refine .v (.pickT rfl (hg_1_6) rfl) (.nt hK3 ?_)
   refine AK.cond_t rfl (rfl) ?_
   refine .sr fun _ hK5 => ?_
   refine .as rfl (.nt hK5 (.ret (.then_ret ?_)))
   refine AK.ret1 rfl rfl (fun w hw => ⟨_, _, ?_, rfl, Ret.of (hw.pick [] (by decide) rfl rfl)⟩)
   refine ⟨congrArg Value.bool ?_, rfl⟩
   symm; unfold validW; rw [decide_eq_false (by omega), Bool.false_and]
  ·have hg_1_6' := hg_1_6
   try simp only [bs] at hg_1_6'
   refine AK.val _ (Yl.move rfl) ⟨_, rfl, gB hg_1_6⟩ rfl ?_
   refine AK.val _ (Yl.lenS un9 rfl) ⟨_, rfl, gB hg_1_6⟩ rfl ?_
   refine AK.val _ (Yl.gtr rfl rfl) ⟨_, rfl, gB hg_1_6⟩ rfl ?_
   refine .v (.pickF rfl (hg_1_6) rfl) (.nt hK3 ?_)
   refine AK.condD rfl (fun hc0 => ?_) (fun hc0 => ?_)
   ·refine .sr fun _ hK6 => ?_
    refine .as rfl (.nt hK6 (.ret (.then_ret ?_)))
    refine AK.ret1 rfl rfl (fun w hw => ⟨_, _, ?_, rfl, Ret.of (hw.pick [] (by decide) rfl rfl)⟩)
    refine ⟨congrArg Value.bool ?_, rfl⟩
    symm; unfold validW; rw [decide_eq_false (by omega), Bool.false_and]
   ·refine .skip ?_
    refine AK.then_ (hK2 _ ?_)
    refine .seq fun _ hK7 => ?_
    refine .sr fun _ hK8 => ?_
    refine .mv rfl (.v (.lenS un9 rfl) (.mv rfl (.nt hK8 (.block ?_))))
    refine AK.loopK (X := Nat) [(0, _), (1, _), (18, _)] (fun k => [(19, .int .i64 (k : Int))]) (fun k => []) (fun k => k ≤ l.length ∧ (1 ≤ L ∧ L ≤ 6 ∧ l.length ≤ 2048) ∧ (l.take k).all (okB L) = true) (fun k => l.length - k) (0) slr ?_ ?_ ?_ ?_
    ·exact ⟨Nat.zero_le _, by omega, rfl⟩
    ·exact slr
    ·exact fun w hw => hw
    ·intro k hg0 _ hK9
     obtain ⟨hk, hL, ha⟩ := hg0
     have hc8 := UInt8.toNat_lt (l.getD k 0)
     refine .sr fun _ hK10 => ?_
     refine .v (.lss rfl rfl) (.nt hK10 ?_)
     refine .seq fun _ hK11 => ?_
     refine AK.condD rfl (fun hc1 => ?_) (fun hc1 => ?_)
     ·refine .skip ?_
      refine AK.then_ (hK11 _ ?_)
      refine .seq fun _ hK12 => ?_
      refine .block ?_
      refine .sr fun _ hK13 => ?_
      refine .mv rfl (.as rfl (.nt hK13 ?_))
      refine .sr fun _ hK14 => ?_
      refine .mv rfl (.mv rfl ?_)
      first | refine .v (.idxSN un9 rfl rfl (by omega)) ?_ | refine .v (.idxS un9 rfl rfl (by omega)) ?_
      refine .v (.lss rfl rfl) (.mv rfl ?_)
      refine AK.splitB (g := 26) rfl (fun hg_6_4 => ?_) (fun hg_6_4 => ?_)
      ·have hg_6_4' := hg_6_4
       try simp only [bs] at hg_6_4'
       refine AK.pass rfl rfl (hg_6_4) rfl ?_
       refine AK.pass rfl rfl (hg_6_4) rfl ?_
       refine AK.pass rfl rfl (hg_6_4) rfl ?_
       refine AK.pass rfl rfl (hg_6_4) rfl ?_
       refine AK.pass rfl rfl (hg_6_4) rfl ?_
       refine AK.pass rfl rfl (hg_6_4) rfl ?_
       refine AK.pass rfl rfl (hg_6_4) rfl ?_
       refine .v (.pickT rfl (hg_6_4) rfl) (.nt hK14 ?_)
       refine AK.cond_t rfl (rfl) ?_
       refine .sr fun _ hK15 => ?_
       refine .as rfl (.nt hK15 (.ret (.block_ret (.then_ret (.then_ret (.block_ret (.then_ret ?_)))))))
       refine AK.ret1 rfl rfl (fun w hw => ⟨_, _, ?_, rfl, Ret.of (hw.pick [] (by decide) rfl rfl)⟩)
       refine ⟨congrArg Value.bool ?_, rfl⟩
       symm; unfold validW; rw [all_at _ 0 (by omega : k < l.length) (by unfold okB; rw [decide_eq_false_iff_not]; omega), Bool.and_false]
      ·have hg_6_4' := hg_6_4
       try simp only [bs] at hg_6_4'
       refine AK.val _ (Yl.move rfl) ⟨_, rfl, gB hg_6_4⟩ rfl ?_
       refine AK.val _ (Yl.move rfl) ⟨_, rfl, gB hg_6_4⟩ rfl ?_
       first | refine AK.val _ (Yl.idxSN un9 rfl rfl (by omega)) ⟨_, rfl, gB hg_6_4⟩ rfl ?_ | refine AK.val _ (Yl.idxS un9 rfl rfl (by omega)) ⟨_, rfl, gB hg_6_4⟩ rfl ?_
       refine AK.val _ (Yl.subU8 rfl rfl (by omega)) ⟨_, rfl, gB hg_6_4⟩ rfl ?_
       refine AK.val _ (Yl.convI (by kernel_rfl) un3 rfl (wrap_i64 (by omega))) ⟨_, rfl, gB hg_6_4⟩ rfl ?_
       refine AK.val _ (Yl.move rfl) ⟨_, rfl, gB hg_6_4⟩ rfl ?_
       refine AK.val _ (Yl.geq rfl rfl) ⟨_, rfl, gB hg_6_4⟩ rfl ?_
       refine .v (.pickF rfl (hg_6_4) rfl) (.nt hK14 ?_)
       refine AK.condD rfl (fun hc2 => ?_) (fun hc2 => ?_)
       ·refine .sr fun _ hK16 => ?_
        refine .as rfl (.nt hK16 (.ret (.block_ret (.then_ret (.then_ret (.block_ret (.then_ret ?_)))))))
        refine AK.ret1 rfl rfl (fun w hw => ⟨_, _, ?_, rfl, Ret.of (hw.pick [] (by decide) rfl rfl)⟩)
        refine ⟨congrArg Value.bool ?_, rfl⟩
        symm; unfold validW; rw [all_at _ 0 (by omega : k < l.length) (by unfold okB; rw [decide_eq_false_iff_not]; omega), Bool.and_false]
       ·refine .skip (.block_normal ?_)
        refine AK.then_ (hK12 _ ?_)
        refine AK.region ?_
        refine .v (.add rfl rfl (by omega)) ?_
        refine .mv rfl (.nil ?_)
        refine AK.then_ (hK9 _ _ (k + 1) ⟨by omega, hL, all_take_succ _ 0 (by omega) ha (by unfold okB; rw [decide_eq_true_eq]; omega)⟩ (by omega) (slr) (fun w hw => hw))
     ·refine .exit (.then_exit (.then_exit (.block_exit ?_)))
      refine AK.then_ (hK7 _ ?_)
      refine .sr fun _ hK17 => ?_
      refine .as rfl (.nt hK17 (.ret ?_))
      refine AK.ret1 rfl rfl (fun w hw => ⟨_, _, ?_, rfl, Ret.of (hw.pick [] (by decide) rfl rfl)⟩)
      refine ⟨congrArg Value.bool ?_, rfl⟩
      rw [show k = l.length by omega, List.take_length] at ha
      symm; unfold validW; rw [decide_eq_true hL, ha]; rfl

theorem s_run (w : World) (v : Value) (d : Dfa) (h : RdD (fun _ => False) w v d) (q : Int) (l : List UInt8) (hm : l.length ≤ 9223372036854775807) : CallS Tryz.prog 48 [v, .int .i64 q, sv l] w (fun r o => r = .int .i64 (RunV d q l) ∧ o = []) := by
 have h0 := h
 obtain ⟨vF, vN, rfl, hF, hN⟩ := h
 have hF0 := hF
 have hN0 := hN
 obtain ⟨rs, hrl, hNr, hNi⟩ := hN
 have sF := hF.sl
 have sN := hNr.sl
 have hmf := hF.le
 have hmn := hNr.le
 unfold RdL at hF
 refine spec_of Tryz.func48 rfl (leb rfl) ?_
 refine .sr fun _ hK1 => ?_
 refine AK.box_ (E := 43) (cs := [.int .i64 d.L, .int .i64 d.s, vF, vN]) rfl rfl rfl trivial rfl (fun bx3 => ?_)
 refine .as rfl (.nt hK1 ?_)
 refine .seq fun _ hK2 => ?_
 refine .sr fun _ hK3 => ?_
 refine .v (.loadBoxG ag43 rfl bsp rfl rfl) ?_
 refine AK.call co22 rfl (fun w hw => s_validate w _ d (h0.at hw)) trivial rfl ?_
 rintro r o ⟨rfl, rfl⟩
 refine .v (.neq rfl rfl) (.mv rfl ?_)
 refine AK.splitB (g := 11) rfl (fun hg_1_3 => ?_) (fun hg_1_3 => ?_)
 ·have hg_1_3' := hg_1_3
  try simp only [bs] at hg_1_3'
  refine AK.pass rfl rfl (hg_1_3) rfl ?_
  refine AK.pass rfl rfl (hg_1_3) rfl ?_
  refine .v (.pickT rfl (hg_1_3) rfl) (.mv rfl ?_)
  refine AK.pass rfl rfl rfl rfl ?_
  refine AK.pass rfl rfl rfl rfl ?_
  refine AK.pass rfl rfl rfl rfl ?_
  refine AK.pass rfl rfl rfl rfl ?_
  refine AK.pass rfl rfl rfl rfl ?_
  refine .v (.pickT rfl (rfl) rfl) (.mv rfl ?_)
  refine AK.pass rfl rfl rfl rfl ?_
  refine AK.pass rfl rfl rfl rfl ?_
  refine AK.pass rfl rfl rfl rfl ?_
  refine AK.pass rfl rfl rfl rfl ?_
  refine AK.pass rfl rfl rfl rfl ?_
  refine .v (.pickT rfl (rfl) rfl) (.nt hK3 ?_)
  refine AK.cond_t rfl (rfl) ?_
  refine .sr fun _ hK4 => ?_
  refine .as rfl (.nt hK4 (.ret (.then_ret ?_)))
  refine AK.ret1 rfl rfl (fun w hw => ⟨_, _, ?_, rfl, Ret.of (hw.pick [] (by decide) rfl rfl)⟩)
  refine ⟨congrArg (Value.int .i64) ?_, rfl⟩
  unfold RunV; rw [if_neg]
  rintro ⟨h1, h2, h3⟩
  first | omega | (simp_all; done) | (simp_all; omega)
 ·have hg_1_3' := hg_1_3
  try simp only [bs] at hg_1_3'
  refine AK.val _ (Yl.move rfl) ⟨_, rfl, gB hg_1_3⟩ rfl ?_
  refine AK.val _ (Yl.lss rfl rfl) ⟨_, rfl, gB hg_1_3⟩ rfl ?_
  refine .v (.pickF rfl (hg_1_3) rfl) (.mv rfl ?_)
  refine AK.splitB (g := 15) rfl (fun hg_1_7 => ?_) (fun hg_1_7 => ?_)
  ·have hg_1_7' := hg_1_7
   try simp only [bs] at hg_1_7'
   refine AK.pass rfl rfl (hg_1_7) rfl ?_
   refine AK.pass rfl rfl (hg_1_7) rfl ?_
   refine AK.pass rfl rfl (hg_1_7) rfl ?_
   refine AK.pass rfl rfl (hg_1_7) rfl ?_
   refine AK.pass rfl rfl (hg_1_7) rfl ?_
   refine .v (.pickT rfl (hg_1_7) rfl) (.mv rfl ?_)
   refine AK.pass rfl rfl rfl rfl ?_
   refine AK.pass rfl rfl rfl rfl ?_
   refine AK.pass rfl rfl rfl rfl ?_
   refine AK.pass rfl rfl rfl rfl ?_
   refine AK.pass rfl rfl rfl rfl ?_
   refine .v (.pickT rfl (rfl) rfl) (.nt hK3 ?_)
   refine AK.cond_t rfl (rfl) ?_
   refine .sr fun _ hK5 => ?_
   refine .as rfl (.nt hK5 (.ret (.then_ret ?_)))
   refine AK.ret1 rfl rfl (fun w hw => ⟨_, _, ?_, rfl, Ret.of (hw.pick [] (by decide) rfl rfl)⟩)
   refine ⟨congrArg (Value.int .i64) ?_, rfl⟩
   unfold RunV; rw [if_neg]
   rintro ⟨h1, h2, h3⟩
   first | omega | (simp_all; done) | (simp_all; omega)
  ·have hg_1_7' := hg_1_7
   try simp only [bs] at hg_1_7'
   refine AK.val _ (Yl.move rfl) ⟨_, rfl, gB hg_1_7⟩ rfl ?_
   refine AK.val _ (Yl.fieldAddr fd43_2 rfl) ⟨_, rfl, gB hg_1_7⟩ rfl ?_
   refine AK.val _ (Yl.loadBox on41 rfl bsp rfl) ⟨_, rfl, gB hg_1_7⟩ rfl ?_
   refine AK.val _ (Yl.lenR sl41 rfl (by first | exact rdp | exact .arg (hNi _ (by omega)))) ⟨_, rfl, gB hg_1_7⟩ rfl ?_
   refine AK.val _ (Yl.geq rfl rfl) ⟨_, rfl, gB hg_1_7⟩ rfl ?_
   refine .v (.pickF rfl (hg_1_7) rfl) (.mv rfl ?_)
   refine AK.splitB (g := 22) rfl (fun hg_1_14 => ?_) (fun hg_1_14 => ?_)
   ·have hg_1_14' := hg_1_14
    try simp only [bs] at hg_1_14'
    refine AK.pass rfl rfl (hg_1_14) rfl ?_
    refine AK.pass rfl rfl (hg_1_14) rfl ?_
    refine AK.pass rfl rfl (hg_1_14) rfl ?_
    refine AK.pass rfl rfl (hg_1_14) rfl ?_
    refine AK.pass rfl rfl (hg_1_14) rfl ?_
    refine .v (.pickT rfl (hg_1_14) rfl) (.nt hK3 ?_)
    refine AK.cond_t rfl (rfl) ?_
    refine .sr fun _ hK6 => ?_
    refine .as rfl (.nt hK6 (.ret (.then_ret ?_)))
    refine AK.ret1 rfl rfl (fun w hw => ⟨_, _, ?_, rfl, Ret.of (hw.pick [] (by decide) rfl rfl)⟩)
    refine ⟨congrArg (Value.int .i64) ?_, rfl⟩
    unfold RunV; rw [if_neg]
    rintro ⟨h1, h2, h3⟩
    first | omega | (simp_all; done) | (simp_all; omega)
   ·have hg_1_14' := hg_1_14
    try simp only [bs] at hg_1_14'
    refine AK.val _ (Yl.move rfl) ⟨_, rfl, gB hg_1_14⟩ rfl ?_
    refine AK.val _ (Yl.fieldAddr fd43_0 rfl) ⟨_, rfl, gB hg_1_14⟩ rfl ?_
    refine AK.val _ (Yl.loadBox on3 rfl bsp rfl) ⟨_, rfl, gB hg_1_14⟩ rfl ?_
    refine AK.call co42 rfl (fun w hw => s_wvalid w l d.L hm) ⟨_, rfl, gB hg_1_14⟩ rfl ?_
    rintro r o ⟨rfl, rfl⟩
    refine AK.val _ (Yl.not rfl) ⟨_, rfl, gB hg_1_14⟩ rfl ?_
    refine .v (.pickF rfl (hg_1_14) rfl) (.nt hK3 ?_)
    refine AK.condB rfl (fun hc0 => ?_) (fun hc0 => ?_)
    ·refine .sr fun _ hK7 => ?_
     refine .as rfl (.nt hK7 (.ret (.then_ret ?_)))
     refine AK.ret1 rfl rfl (fun w hw => ⟨_, _, ?_, rfl, Ret.of (hw.pick [] (by decide) rfl rfl)⟩)
     refine ⟨congrArg (Value.int .i64) ?_, rfl⟩
     unfold RunV; rw [if_neg]
     rintro ⟨h1, h2, h3⟩
     first | omega | (simp_all; done) | (simp_all; omega)
    ·have hv : VD d := (errV_iff d).1 hg_1_3'
     have hwv : validW d.L l = true := by simpa using hc0
     have hq : 0 ≤ q ∧ q < d.fin.length := by omega
     have hok := (validW_iff.1 hwv).2
     refine .skip ?_
     refine AK.then_ (hK2 _ ?_)
     refine .seq fun _ hK8 => ?_
     refine .sr fun _ hK9 => ?_
     refine .mv rfl (.v (.lenS un9 rfl) (.mv rfl (.nt hK9 (.block ?_))))
     refine AK.loopK (X := Nat) [(2, _), (3, _), (30, _)] (fun k => [(1, .int .i64 (runI d q (l.take k))), (31, .int .i64 (k : Int))]) (fun k => [box bx3 43 4 [.int .i64 d.L, .int .i64 d.s, vF, vN]]) (fun k => k ≤ l.length) (fun k => l.length - k) (0) slr ?_ ?_ ?_ ?_
     ·exact Nat.zero_le _
     ·exact slr
     ·exact fun w hw => hw
     ·intro k hg0 _ hK10
      have hb := runI_bd hv hq hwv k
      have hrw := hv.row (runI d q (l.take k)).toNat (by omega)
      have hnx := hv.nx
      have hc8 := UInt8.toNat_lt (l.getD k 0)
      refine .sr fun _ hK11 => ?_
      refine .v (.lss rfl rfl) (.nt hK11 ?_)
      refine .seq fun _ hK12 => ?_
      refine AK.condD rfl (fun hc1 => ?_) (fun hc1 => ?_)
      ·have hok1 := hok k (by omega)
       refine .skip ?_
       refine AK.then_ (hK12 _ ?_)
       refine .seq fun _ hK13 => ?_
       refine .block ?_
       refine .sr fun _ hK14 => ?_
       refine .mv rfl (.as rfl (.nt hK14 ?_))
       refine AK.quiet mixed krf ?_
       refine .v (.fieldAddr fd43_3 rfl) (.v (.loadBox on22 rfl bsp rfl) (.mv rfl ?_))
       first | refine .v (.iN sl22 rfl rfl (hr := (by first | exact rdp | exact .arg (hNi _ (by omega))))) ?_ | refine .v (.iK sl22 rfl rfl (hr := (by first | exact rdp | exact .arg (hNi _ (by omega))))) ?_
       refine .v (.loadV on26 rfl (by first | exact rdp | exact .arg (hNi _ (by omega))) (by omega)) ?_
       refine .mv rfl (.mv rfl ?_)
       first | refine .v (.idxSN un9 rfl rfl (by omega)) ?_ | refine .v (.idxS un9 rfl rfl (by omega)) ?_
       refine .v (.subU8 rfl rfl (by omega)) ?_
       first | refine .v (.iN sl26 rfl rfl (hr := (by first | exact rdp | exact .arg (hNi _ (by omega))))) ?_ | refine .v (.iK sl26 rfl rfl (hr := (by first | exact rdp | exact .arg (hNi _ (by omega))))) ?_
       refine .v (.loadI on3 rfl (by first | exact rdp | exact .arg (hNi _ (by omega))) (by omega)) ?_
       refine .as rfl ?_
       refine QK.nil (QK.fin ?_)
       refine .block_normal ?_
       refine AK.then_ (hK13 _ ?_)
       refine AK.region ?_
       refine .v (.add rfl rfl (by omega)) ?_
       refine .mv rfl (.nil ?_)
       refine AK.then_ (hK10 _ _ (k + 1) (by omega) (by omega) (.cons (slI rfl (by rw [runI_snoc d q l k (by omega)]; rfl)) (slr)) (fun w hw => hw))
      ·refine .exit (.then_exit (.then_exit (.block_exit ?_)))
       refine AK.then_ (hK8 _ ?_)
       refine .sr fun _ hK15 => ?_
       refine .mv rfl (.as rfl (.nt hK15 (.ret ?_)))
       refine AK.ret1 rfl rfl (fun w hw => ⟨_, _, ?_, rfl, Ret.of (hw.pick [] (by decide) rfl rfl)⟩)
       refine ⟨congrArg (Value.int .i64) ?_, rfl⟩
       unfold RunV; rw [if_pos ⟨(errV_iff d).2 hv, hq, hwv⟩, show k = l.length by omega, List.take_length]

theorem s_acc (w : World) (v : Value) (d : Dfa) (h : RdD (fun _ => False) w v d) (l : List UInt8) (hm : l.length ≤ 9223372036854775807) : CallS Tryz.prog 25 [v, sv l] w (fun r o => r = .bool (AccV d l) ∧ o = []) := by
 have h0 := h
 obtain ⟨vF, vN, rfl, hF, hN⟩ := h
 have hF0 := hF
 have hN0 := hN
 obtain ⟨rs, hrl, hNr, hNi⟩ := hN
 have sF := hF.sl
 have sN := hNr.sl
 have hmf := hF.le
 have hmn := hNr.le
 unfold RdL at hF
 refine spec_of Tryz.func25 rfl (leb rfl) ?_
 refine .sr fun _ hK1 => ?_
 refine AK.box_ (E := 43) (cs := [.int .i64 d.L, .int .i64 d.s, vF, vN]) rfl rfl rfl trivial rfl (fun bx2 => ?_)
 refine .as rfl (.nt hK1 ?_)
 refine .sr fun _ hK2 => ?_
 refine .v (.loadBoxG ag43 rfl bsp rfl rfl) (.v (.fieldAddr fd43_1 rfl) (.v (.loadBox on3 rfl bsp rfl) (.mv rfl ?_)))
 refine AK.call co48 rfl (fun w hw => s_run w _ d (h0.at hw) d.s l hm) trivial rfl ?_
 rintro r o ⟨rfl, rfl⟩
 have hb := @RunV_bd d d.s l
 refine .as rfl (.nt hK2 ?_)
 refine .sr fun _ hK3 => ?_
 refine .mv rfl (.v (.geq rfl rfl) (.mv rfl ?_))
 refine AK.splitB (g := 13) rfl (fun hg_2_2 => ?_) (fun hg_2_2 => ?_)
 ·have hg_2_2' := hg_2_2
  try simp only [bs] at hg_2_2'
  refine AK.val _ (Yl.fieldAddr fd43_2 rfl) ⟨_, rfl, gB hg_2_2⟩ rfl ?_
  refine AK.val _ (Yl.loadBox on41 rfl bsp rfl) ⟨_, rfl, gB hg_2_2⟩ rfl ?_
  refine AK.val _ (Yl.move rfl) ⟨_, rfl, gB hg_2_2⟩ rfl ?_
  first | refine AK.val _ (.iN sl41 rfl rfl (h0 := (by have := hb (by omega); omega))) ⟨_, rfl, gB hg_2_2⟩ rfl ?_ | refine AK.val _ (.iK sl41 rfl rfl (h0 := (by have := hb (by omega); omega))) ⟨_, rfl, gB hg_2_2⟩ rfl ?_
  refine AK.val _ (Yl.loadB on4 rfl rdp (by have := hb (by omega); omega)) ⟨_, rfl, gB hg_2_2⟩ rfl ?_
  refine .v (.pickT rfl (hg_2_2) rfl) (.as rfl (.nt hK3 (.ret ?_)))
  refine AK.ret1 rfl rfl (fun w hw => ⟨_, _, ?_, rfl, Ret.of (hw.pick [] (by decide) rfl rfl)⟩)
  refine ⟨congrArg Value.bool ?_, rfl⟩
  unfold AccV
  first | rw [if_pos (by omega)] | rw [if_neg (by omega)]
 ·have hg_2_2' := hg_2_2
  try simp only [bs] at hg_2_2'
  refine AK.pass rfl rfl (hg_2_2) rfl ?_
  refine AK.pass rfl rfl (hg_2_2) rfl ?_
  refine AK.pass rfl rfl (hg_2_2) rfl ?_
  refine AK.pass rfl rfl (hg_2_2) rfl ?_
  refine AK.pass rfl rfl (hg_2_2) rfl ?_
  refine .v (.pickF rfl (hg_2_2) rfl) (.as rfl (.nt hK3 (.ret ?_)))
  refine AK.ret1 rfl rfl (fun w hw => ⟨_, _, ?_, rfl, Ret.of (hw.pick [] (by decide) rfl rfl)⟩)
  refine ⟨congrArg Value.bool ?_, rfl⟩
  unfold AccV
  first | rw [if_pos (by omega)] | rw [if_neg (by omega)]

end Go.Proofs.YtdnhiinakhmhgaaGreatDoor

namespace Go.Proofs.YtdnhiinakhmhgaaGreatDoor
open Go.Sx Go.RowKit
theorem s_tz (w : World) (s : W64) (hT : TbA w) : CallS Tryz.prog 133 [uv s] w (fun r o => r = .int .i64 ((Lib.ctz 64 s.toNat : Nat) : Int) ∧ o = []) := by
 refine spec_of Tryz.func133 rfl (leb rfl) ?_
 refine .sr fun _ hK1 => ?_
 refine .as rfl (.nt hK1 ?_)
 refine .seq fun _ hK2 => ?_
 refine .sr fun _ hK3 => ?_
 refine .mv rfl (.v (.eqlU (b := 0) rfl rfl) (.nt hK3 ?_))
 refine AK.condD rfl (fun hc0 => ?_) (fun hc0 => ?_)
 ·refine .sr fun _ hK4 => ?_
  refine .as rfl (.nt hK4 (.ret (.then_ret ?_)))
  refine AK.ret1 rfl rfl (fun w hw => ⟨_, _, ?_, rfl, Ret.of (hw.pick [] (by decide) rfl rfl)⟩)
  rw [hc0]
  exact ⟨rfl, rfl⟩
 ·obtain ⟨k, hk1, hk2, hk3⟩ := tz_key (s := s) hc0
  have hct := (low_bits hc0).1
  refine .skip ?_
  refine AK.then_ (hK2 _ ?_)
  refine .sr fun _ hK5 => ?_
  refine .mv rfl (.mv rfl (.v (.negU rfl) (.v (.andU rfl rfl) (.v (.mulU (b := 285870213051353865) rfl rfl) ?_))))
  refine AK.val (.int .u64 (k : Int)) (Yl.valE (Yl.shrU (n := 58) rfl rfl (by omega)) (by show uv (((s &&& -s) * 285870213051353865) >>> 58) = _; rw [hk2]; exact uv_nat hk1)) trivial rfl ?_
  refine AK.val (.pointer (some ⟨0, k, none⟩)) (Yl.valE (Yl.idxArrU ar220 rfl rfl hk1) (by simp)) trivial rfl ?_
  refine AK.val (.int .u8 ((Lib.ctz 64 s.toNat : Nat) : Int)) (Yl.valE (Yl.loadTb on5 rfl hk1 hT) (by rw [hk3])) trivial rfl ?_
  refine .v (.convI (by kernel_rfl) un3 rfl (wrap_i64 (by omega))) ?_
  refine .as rfl (.nt hK5 (.ret ?_))
  refine AK.ret1 rfl rfl (fun w hw => ⟨_, _, ?_, rfl, Ret.of (hw.pick [] (by decide) rfl rfl)⟩)
  exact ⟨rfl, rfl⟩

theorem s_onone (w : World) (wd : List UInt8) (hl : wd.length ≤ 62) : CallS Tryz.prog 65 [.agg #[sv wd]] w (fun r o => IsSl r ∧ o = [row r 127 1 1 ([0].map uv)]) := by
 refine spec_of Tryz.func65 rfl (leb rfl) ?_
 refine .sr fun _ hK1 => ?_
 refine AK.box_ (E := 113) (cs := [sv wd]) rfl rfl rfl trivial rfl (fun bx1 => ?_)
 refine .as rfl (.nt hK1 ?_)
 refine .sr fun _ hK2 => ?_
 refine .v (.fieldAddr fd113_0 rfl) (.v (.loadBox on9 rfl bsp rfl) (.v (.lenS un9 rfl) ?_))
 refine AK.val (.int .i64 0) (Yl.valE (Yl.shr (n := 6) rfl rfl (by omega) (by omega)) (by rw [div64 (by omega)])) trivial rfl ?_
 refine AK.val (.int .i64 ((1 : Nat) : Int)) (Yl.addE 1 rfl rfl (by omega) (by omega)) trivial rfl ?_
 refine AK.make1 sl115 el127 rfl rfl rfl (by omega) (by omega) trivial rfl (fun mv0 => ?_)
 refine .as rfl (.nt hK2 (.ret ?_))
 refine AK.shape 1 rfl (fun smv => ?_)
 refine AK.ret1 rfl rfl (fun w hw => ⟨_, _, ?_, rfl, Ret.of (hw.pick [1] (by decide) rfl rfl)⟩)
 exact ⟨smv, rfl⟩

theorem s_oadd (w : World) (F : Nat → Prop) (s : Value) (x : W64) (i : Nat) (hi : i < 64) (hA : (row s 127 1 1 ([x].map uv)).holds w F) : CallM Tryz.prog 66 [s, .int .i64 (i : Int)] w F (fun r A o => A = row s 127 1 1 ([(x ||| ((1 : W64) <<< i))].map uv) ∧ o = []) := by
 refine specM_of Tryz.func66 rfl (leb rfl) hA ?_
 try (conv => enter [2, 2]; simp only [nrm])
 refine AK.held 10 mixed ?_
 refine HeldK.first 0 (fuel := 10) (listed' := (lb 11 1)) _ rfl krf krf rfl (Yl.move rfl) trivial rfl ?_
 refine HeldK.first 1 (fuel := 9) (listed' := (lb 11 3)) _ rfl krf krf rfl (Yl.move rfl) trivial rfl ?_
 refine HeldK.first 2 (fuel := 8) (listed' := (lb 11 7)) _ rfl krf krf rfl (Yl.valE (Yl.shr (m := (i : Int)) (n := 6) rfl rfl (by omega) (by omega)) (show _ = Value.int .i64 ((0 : Nat) : Int) from by rw [div64 hi]; rfl)) trivial rfl ?_
 first | refine HeldK.first 3 (fuel := 7) (listed' := (lb 11 15)) _ rfl krf krf rfl (.iN sl115 rfl rfl) trivial rfl ?_ | refine HeldK.first 3 (fuel := 7) (listed' := (lb 11 15)) _ rfl krf krf rfl (.iK sl115 rfl rfl) trivial rfl ?_
 refine HeldK.first 4 (fuel := 6) (listed' := (lb 11 31)) _ rfl krf krf rfl (Yl.loadU on127 rfl rdp (leb rfl)) trivial rfl ?_
 refine HeldK.first 5 (fuel := 5) (listed' := (lb 11 63)) _ rfl krf krf rfl (Yl.move rfl) trivial rfl ?_
 refine HeldK.first 6 (fuel := 4) (listed' := (lb 11 127)) _ rfl krf krf rfl (Yl.valE (Yl.andAny rfl rfl) (show _ = Value.int .i64 (i : Int) from by rw [and63 hi])) trivial rfl ?_
 refine HeldK.first 7 (fuel := 3) (listed' := (lb 11 255)) _ rfl krf krf rfl (Yl.shlU (a := 1) (n := (i : Int)) rfl rfl (by omega)) trivial rfl ?_
 refine HeldK.first 8 (fuel := 2) (listed' := (lb 11 511)) _ rfl krf krf rfl (Yl.orU rfl rfl) trivial rfl ?_
 first | refine HeldK.first 9 (fuel := 1) (listed' := (lb 11 1023)) _ rfl krf krf rfl (.iN sl115 rfl rfl) trivial rfl ?_ | refine HeldK.first 9 (fuel := 1) (listed' := (lb 11 1023)) _ rfl krf krf rfl (.iK sl115 rfl rfl) trivial rfl ?_
 refine HeldK.one 10 (fuel := 0) (listed' := (lb 11 2047)) krf rfl krf ?_
 refine AK.store1e 0 rfl sz127 rfl rfl rfl rfl (by omega) (cs' := ([x ||| ((1 : W64) <<< i)].map uv)) (rfl) trivial ?_
 refine .nil ?_
 try (conv => enter [2, 2]; simp only [nrm])
 refine HeldK.backN 11 krf rfl krf ?_
 refine .nil ?_
 refine AK.fromQn ?_
 refine AK.endG [] rfl (.nil) (fun w hw => ⟨_, _, _, ?_, rfl, Ret.of (hw.pick [0] (by decide) rfl rfl)⟩)
 exact ⟨rfl, rfl⟩

theorem s_ohas (w : World) (s : Value) (x : W64) (i : Nat) (hi : i < 64) (hr : Rd (fun b => ¬ (fun _ => False) b) w s 1 1 ([x].map uv)) : CallS Tryz.prog 68 [s, .int .i64 (i : Int)] w (fun r o => r = .bool (x.getLsbD i) ∧ o = []) := by
 refine spec_of Tryz.func68 rfl (leb rfl) ?_
 refine .sr fun _ hK1 => ?_
 refine .as rfl (.nt hK1 ?_)
 refine .sr fun _ hK2 => ?_
 refine .mv rfl (.mv rfl ?_)
 refine .v (.valE (Yl.shr (m := (i : Int)) (n := 6) rfl rfl (by omega) (by omega)) (show _ = Value.int .i64 ((0 : Nat) : Int) from by rw [div64 hi]; rfl)) ?_
 first | refine .v (.iN sl115 rfl rfl) ?_ | refine .v (.iK sl115 rfl rfl) ?_
 refine .v (.loadU on127 rfl rdp (leb rfl)) (.mv rfl ?_)
 refine .v (.valE (Yl.andAny rfl rfl) (show _ = Value.int .i64 (i : Int) from by rw [and63 hi])) ?_
 refine .v (.shrU (n := (i : Int)) rfl rfl (by omega)) ?_
 refine .v (.andU (b := 1) rfl rfl) (.v (.eqlU (b := 1) rfl rfl) (.as rfl (.nt hK2 (.ret ?_))))
 refine AK.ret1 rfl rfl (fun w hw => ⟨_, _, ?_, rfl, Ret.of (hw.pick [] (by decide) rfl rfl)⟩)
 exact ⟨congrArg Value.bool (bit_shr x i), rfl⟩

set_option maxHeartbeats 1000000 in
theorem s_oeach (w : World) (F : Nat → Prop) (JP : List Nat → Asn → Prop) (A0 : Asn) (hJ0 : JP [] A0) (hA : A0.holds w F) (s : Value) (x : W64) (hr : Rd (fun b => ¬ F b) w s 1 1 ([x].map uv)) (hT : TbA w) (hF : ¬ F 0) (f : FuncId) (cs : List Value) (hco : CallOk Tryz.prog f) (hv : ∀ (w' : World) (F' : Nat → Prop) (A : Asn) (pre : List Nat) (i : Nat) (post : List Nat), pre ++ i :: post = mems x → JP pre A → A.holds w' F' → FrameX F w w' → (∀ b, F' b → w.heap.size ≤ b ∨ F b) → CallM Tryz.prog f (.int .i64 (i : Int) :: cs) w' F' (fun r A' o => JP (pre ++ [i]) A' ∧ o = [])) : CallM Tryz.prog 105 [s, .func (.func f) #[] cs.toArray] w F (fun r A o => JP (mems x) A ∧ o = []) := by
 have hml := mems_len x
 refine specM_of Tryz.func105 rfl (leb rfl) hA ?_
 refine .sr fun _ hK1 => ?_
 refine .mv rfl (.v (.lenR sl115 rfl rdp) (.mv rfl (.nt hK1 (.block ?_))))
 refine AK.loopK (X := Nat × Asn × List Nat) [(1, _), (6, _), (7, _)] (fun z => [(8, .int .i64 (z.1 : Int))]) (fun z => [z.2.1]) (fun z => z.1 ≤ 1 ∧ JP z.2.2 z.2.1 ∧ (z.1 = 0 → z.2.2 = []) ∧ (z.1 = 1 → z.2.2 = mems x)) (fun z => 1 - z.1) ((0, A0, [])) slr ?_ ?_ ?_ ?_
 ·exact ⟨Nat.zero_le _, hJ0, fun _ => rfl, fun h => absurd h Nat.zero_ne_one⟩
 ·exact slr
 ·exact fun w hw => hw
 ·intro z hg0 _ hK2
  refine .sr fun _ hK3 => ?_
  refine .v (.lss rfl rfl) (.nt hK3 ?_)
  refine .seq fun _ hK4 => ?_
  refine AK.condD rfl (fun hc0 => ?_) (fun hc0 => ?_)
  ·have hz : z.1 = 0 := by omega
   refine .skip ?_
   refine AK.then_ (hK4 _ ?_)
   refine .seq fun _ hK5 => ?_
   refine .block ?_
   refine .sr fun _ hK6 => ?_
   refine .mv rfl ?_
   first | refine .v (.iN sl115 rfl rfl) ?_ | refine .v (.iK sl115 rfl rfl) ?_
   refine AK.val (uv x) (Yl.valE (Yl.loadU (xs := [x]) on127 rfl rdp (by show z.1 < 1; omega)) (by rw [hz]; rfl)) trivial rfl ?_
   refine .as rfl (.as rfl (.nt hK6 (.block ?_)))
   refine AK.loopK (X := W64 × Asn × List Nat) [(1, _), (4, _), (6, _), (7, _), (8, _)] (fun y => [(5, uv y.1)]) (fun y => [y.2.1]) (fun y => y.2.2 ++ mems y.1 = mems x ∧ JP y.2.2 y.2.1) (fun y => (mems y.1).length) ((x, z.2.1, z.2.2)) slr ?_ ?_ ?_ ?_
   ·exact ⟨by dsimp only; rw [hg0.2.2.1 (by omega)]; rfl, hg0.2.1⟩
   ·exact slr
   ·exact fun w hw => hw
   ·intro y hg1 _ hK7
    refine .seq fun _ hK8 => ?_
    refine .sr fun _ hK9 => ?_
    refine .mv rfl (.v (.neqU (b := 0) rfl rfl) (.nt hK9 ?_))
    refine AK.condNe rfl (fun hc1 => ?_) (fun hc1 => ?_)
    ·have hnx := mems_next hc1
     have hcb := (low_bits hc1).1
     refine .skip ?_
     refine AK.then_ (hK8 _ ?_)
     refine .seq fun _ hK10 => ?_
     refine .block ?_
     refine AK.region ?_
     refine .mv rfl (.mv rfl ?_)
     refine .v (.valE (Yl.shlI 0 rfl rfl (by omega) (by rw [hz]; rfl) (by omega)) (show _ = Value.int .i64 0 from rfl)) ?_
     refine .mv rfl ?_
     refine AK.call co133 rfl (fun w hw => s_tz w y.1 (hT.at hw hF)) trivial rfl ?_
     rintro r o ⟨rfl, rfl⟩
     refine AK.val (.int .i64 ((Lib.ctz 64 y.1.toNat : Nat) : Int)) (Yl.valE (Yl.add rfl rfl (by omega)) (by rw [Int.zero_add])) trivial rfl ?_
     refine AK.callVN 0 rfl (us := []) (cs := cs) hco rfl rfl (fun w Fs hw hh hfr hal => hv w (Fs 0) y.2.1 y.2.2 (Lib.ctz 64 y.1.toNat) (mems (y.1 &&& (y.1 - 1))) (by rw [← hnx]; exact hg1.1) hg1.2 (hh.at_ 0 _ rfl) hfr (hal 0)) trivial rfl ?_
     rintro r A o ⟨hJ1, rfl⟩
     refine .nil (.block_normal ?_)
     refine AK.then_ (hK10 _ ?_)
     refine AK.region ?_
     refine .mv rfl (.mv rfl (.v (.subU (b := 1) rfl rfl) (.v (.andU rfl rfl) (.as rfl (.nil ?_)))))
     refine AK.then_ (hK7 _ _ ((y.1 &&& (y.1 - 1), A, y.2.2 ++ [Lib.ctz 64 y.1.toNat])) ⟨by dsimp only; rw [← hg1.1, hnx, List.append_assoc]; rfl, hJ1⟩ (by dsimp only; rw [hnx]; simp) (slr) (fun w hw => hw))
    ·refine .exit (.then_exit (.then_exit (.block_exit (.block_normal ?_))))
     refine AK.then_ (hK5 _ ?_)
     refine AK.region ?_
     refine .v (.add rfl rfl (by omega)) ?_
     refine .mv rfl (.nil ?_)
     refine AK.then_ (hK2 _ _ ((z.1 + 1, y.2.1, y.2.2)) ⟨by dsimp only; omega, hg1.2, fun h => absurd h (by dsimp only; omega), fun _ => by have h := hg1.1; rw [show y.1 = 0 by assumption, mems_zero, List.append_nil] at h; exact h⟩ (by dsimp only; omega) (slr) (fun w hw => hw))
  ·refine .exit (.then_exit (.then_exit (.block_exit ?_)))
   refine AK.endG [] rfl (.nil) (fun w hw => ⟨_, _, _, ?_, rfl, Ret.of (hw.pick [0] (by decide) rfl rfl)⟩)
   exact ⟨(hg0.2.2.2 (by omega)) ▸ hg0.2.1, rfl⟩

set_option maxHeartbeats 1000000 in
theorem s_ends1 (w : World) (F : Nat → Prop) (e : Ex) (s : Value) (wd : List UInt8) (hl : wd.length ≤ 62) (hv : validW 6 wd = true) (i : Nat) (hi : i ≤ wd.length) (bm be br : Nat) (vr : Value) (hA : (bigA [box bm 113 1 [sv wd], box be 65 3 [.int .i64 e.op, .int .i64 e.lt, s], box br 117 1 [vr], row vr 115 1 (wd.length + 1) (List.replicate (wd.length + 1) nilV)]).holds w F) : CallM Tryz.prog 106 [.int .i64 (i : Int), .pointer (some ⟨bm, 0, none⟩), .pointer (some ⟨br, 0, none⟩), .pointer (some ⟨be, 0, none⟩)] w F (fun r A o => ∃ nv, IsSl nv ∧ A = bigA [box bm 113 1 [sv wd], box be 65 3 [.int .i64 e.op, .int .i64 e.lt, s], box br 117 1 [vr], row vr 115 1 (wd.length + 1) ((List.replicate (wd.length + 1) nilV).set i nv), row nv 127 1 1 ([leafS e wd i].map uv)] ∧ o = []) := by
 refine specM_of' Tryz.func106 rfl (leb rfl) hA ?_
 refine .seq fun _ hK1 => ?_
 try (conv => enter [2, 2]; simp only [nrm])
 refine AK.held 5 mixed ?_
 refine HeldK.first 0 (fuel := 5) (listed' := (lb 6 1)) _ rfl krf krf rfl (Yl.loadBox on117 rfl bsp rfl) trivial rfl ?_
 refine HeldK.first 1 (fuel := 4) (listed' := (lb 6 3)) _ rfl krf krf rfl (Yl.move rfl) trivial rfl ?_
 refine HeldK.first 2 (fuel := 3) (listed' := (lb 6 7)) _ rfl krf krf rfl (Yl.loadBoxG ag113 rfl bsp rfl rfl) trivial rfl ?_
 refine HeldK.one 3 (fuel := 2) (listed' := (lb 6 15)) krf rfl krf ?_
 refine AK.call co65 rfl (fun w hw => s_onone w wd hl) trivial rfl ?_
 rintro nv o ⟨snv, rfl⟩
 refine .nil ?_
 try (conv => enter [2, 2]; simp only [nrm])
 refine HeldK.back Go.Sx.hle ?_
 first | refine HeldK.first 4 (fuel := 1) (listed' := (lb 6 31)) _ rfl krf krf rfl (.iN sl117 rfl rfl) trivial rfl ?_ | refine HeldK.first 4 (fuel := 1) (listed' := (lb 6 31)) _ rfl krf krf rfl (.iK sl117 rfl rfl) trivial rfl ?_
 refine HeldK.one 5 (fuel := 0) (listed' := (lb 6 63)) krf rfl krf ?_
 refine AK.store1 3 rfl sz115 rfl rfl (IsSl.cells snv) (IsSl.one snv) (by omega) trivial ?_
 refine .nil ?_
 try (conv => enter [2, 2]; simp only [nrm])
 refine HeldK.backN 6 krf rfl krf ?_
 refine .nil ?_
 refine AK.fromQn ?_
 refine AK.then_ (hK1 _ ?_)
 refine .block ?_
 refine .sr fun _ hK2 => ?_
 refine .v (.fieldAddr fd65_0 rfl) (.v (.loadBox on3 rfl bsp rfl) (.v (.eql rfl rfl) (.as rfl (.nt hK2 ?_))))
 refine AK.condD rfl (fun hc0 => ?_) (fun hc0 => ?_)
 ·refine AK.region ?_
  refine .v (.loadBox on117 rfl bsp rfl) (.mv rfl ?_)
  first | refine .v (.iN sl117 rfl rfl) ?_ | refine .v (.iK sl117 rfl rfl) ?_
  refine AK.val nv (Yl.valE (Yl.loadV on115 rfl rdp (by rw [List.length_set, List.length_replicate]; omega)) (rep_get (by omega))) trivial rfl ?_
  refine .mv rfl ?_
  refine AK.callN 4 rfl co66 rfl (fun w Fs hw hh hfr hal => s_oadd w (Fs 4) nv 0 i (by omega) (hh.at_ 4 _ rfl)) trivial rfl ?_
  rintro r A o ⟨rfl, rfl⟩
  refine .nil (.block_normal ?_)
  refine AK.endG [] rfl (.nil) (fun w hw => ⟨_, _, _, ?_, rfl, Ret.ofBig0 hw⟩)
  refine ⟨nv, snv, ?_, rfl⟩
  first | (rw [show leafS e wd i = 0 ||| (1 : W64) <<< i from if_pos hc0] <;> rfl) | (rw [show leafS e wd i = 0 ||| (1 : W64) <<< (i + 1) from by unfold leafS; rw [if_neg hc0, if_pos (by first | omega | grind)]] <;> rfl) | (rw [show leafS e wd i = 0 from by unfold leafS; rw [if_neg hc0, if_neg (by first | omega | grind)]] <;> rfl)
 ·refine .seq fun _ hK3 => ?_
  refine AK.quiet mixed krf ?_
  refine .v (.fieldAddr fd65_0 rfl) (.v (.loadBox on3 rfl bsp rfl) (.v (.eql rfl rfl) (.mv rfl ?_)))
  refine QK.splitB (g := 24) rfl (fun hg_3_3 => ?_) (fun hg_3_3 => ?_)
  ·have hg_3_3' := hg_3_3
   try simp only [bs] at hg_3_3'
   refine QK.val _ (Yl.move rfl) ⟨_, rfl, gB hg_3_3⟩ rfl ?_
   refine QK.val _ (Yl.fieldAddr fd113_0 rfl) ⟨_, rfl, gB hg_3_3⟩ rfl ?_
   refine QK.val _ (Yl.loadBox on9 rfl bsp rfl) ⟨_, rfl, gB hg_3_3⟩ rfl ?_
   refine QK.val _ (Yl.lenS un9 rfl) ⟨_, rfl, gB hg_3_3⟩ rfl ?_
   refine QK.val _ (Yl.lss rfl rfl) ⟨_, rfl, gB hg_3_3⟩ rfl ?_
   refine .v (.pickT rfl (hg_3_3) rfl) (.mv rfl ?_)
   refine QK.splitB (g := 31) rfl (fun hg_3_10 => ?_) (fun hg_3_10 => ?_)
   ·have hg_3_10' := hg_3_10
    try simp only [bs] at hg_3_10'
    refine QK.val _ (Yl.fieldAddr fd113_0 rfl) ⟨_, rfl, gB hg_3_10⟩ rfl ?_
    refine QK.val _ (Yl.loadBox on9 rfl bsp rfl) ⟨_, rfl, gB hg_3_10⟩ rfl ?_
    refine QK.val _ (Yl.move rfl) ⟨_, rfl, gB hg_3_10⟩ rfl ?_
    first | refine QK.val _ (Yl.idxSN un9 rfl rfl (by omega)) ⟨_, rfl, gB hg_3_10⟩ rfl ?_ | refine QK.val _ (Yl.idxS un9 rfl rfl (by omega)) ⟨_, rfl, gB hg_3_10⟩ rfl ?_
    refine QK.val _ (Yl.subU8 rfl rfl (by have := valid97 hv (i := i) (by omega); omega)) ⟨_, rfl, gB hg_3_10⟩ rfl ?_
    refine QK.val _ (Yl.convI (by kernel_rfl) un3 rfl (wrap_i64 (by have := valid97 hv (i := i) (by omega); omega))) ⟨_, rfl, gB hg_3_10⟩ rfl ?_
    refine QK.val _ (Yl.fieldAddr fd65_1 rfl) ⟨_, rfl, gB hg_3_10⟩ rfl ?_
    refine QK.val _ (Yl.loadBox on3 rfl bsp rfl) ⟨_, rfl, gB hg_3_10⟩ rfl ?_
    refine QK.val _ (Yl.eql rfl rfl) ⟨_, rfl, gB hg_3_10⟩ rfl ?_
    refine .v (.pickT rfl (hg_3_10) rfl) (.as rfl ?_)
    refine QK.nil (QK.fin ?_)
    refine AK.then_ (hK3 _ ?_)
    refine AK.condD rfl (fun hc1 => ?_) (fun hc1 => ?_)
    ·refine AK.region ?_
     refine .v (.loadBox on117 rfl bsp rfl) (.mv rfl ?_)
     first | refine .v (.iN sl117 rfl rfl) ?_ | refine .v (.iK sl117 rfl rfl) ?_
     refine AK.val nv (Yl.valE (Yl.loadV on115 rfl rdp (by rw [List.length_set, List.length_replicate]; omega)) (rep_get (by omega))) trivial rfl ?_
     refine .mv rfl ?_
     refine .v (.add rfl rfl (by omega)) ?_
     refine AK.callN 4 rfl co66 rfl (fun w Fs hw hh hfr hal => s_oadd w (Fs 4) nv 0 (i + 1) (by omega) (hh.at_ 4 _ rfl)) trivial rfl ?_
     rintro r A o ⟨rfl, rfl⟩
     refine .nil (.block_normal ?_)
     refine AK.endG [] rfl (.nil) (fun w hw => ⟨_, _, _, ?_, rfl, Ret.ofBig0 hw⟩)
     refine ⟨nv, snv, ?_, rfl⟩
     first | (rw [show leafS e wd i = 0 ||| (1 : W64) <<< i from if_pos hc0] <;> rfl) | (rw [show leafS e wd i = 0 ||| (1 : W64) <<< (i + 1) from by unfold leafS; rw [if_neg hc0, if_pos (by first | omega | grind)]] <;> rfl) | (rw [show leafS e wd i = 0 from by unfold leafS; rw [if_neg hc0, if_neg (by first | omega | grind)]] <;> rfl)
    ·refine .skip (.block_normal ?_)
     refine AK.endG [] rfl (.nil) (fun w hw => ⟨_, _, _, ?_, rfl, Ret.ofBig0 hw⟩)
     refine ⟨nv, snv, ?_, rfl⟩
     first | (rw [show leafS e wd i = 0 ||| (1 : W64) <<< i from if_pos hc0] <;> rfl) | (rw [show leafS e wd i = 0 ||| (1 : W64) <<< (i + 1) from by unfold leafS; rw [if_neg hc0, if_pos (by first | omega | grind)]] <;> rfl) | (rw [show leafS e wd i = 0 from by unfold leafS; rw [if_neg hc0, if_neg (by first | omega | grind)]] <;> rfl)
   ·have hg_3_10' := hg_3_10
    try simp only [bs] at hg_3_10'
    refine QK.pass rfl rfl (hg_3_10) rfl ?_
    refine QK.pass rfl rfl (hg_3_10) rfl ?_
    refine QK.pass rfl rfl (hg_3_10) rfl ?_
    refine QK.pass rfl rfl (hg_3_10) rfl ?_
    refine QK.pass rfl rfl (hg_3_10) rfl ?_
    refine QK.pass rfl rfl (hg_3_10) rfl ?_
    refine QK.pass rfl rfl (hg_3_10) rfl ?_
    refine QK.pass rfl rfl (hg_3_10) rfl ?_
    refine QK.pass rfl rfl (hg_3_10) rfl ?_
    refine .v (.pickF rfl (hg_3_10) rfl) (.as rfl ?_)
    refine QK.nil (QK.fin ?_)
    refine AK.then_ (hK3 _ ?_)
    refine AK.cond_f rfl (rfl) ?_
    refine .skip (.block_normal ?_)
    refine AK.endG [] rfl (.nil) (fun w hw => ⟨_, _, _, ?_, rfl, Ret.ofBig0 hw⟩)
    refine ⟨nv, snv, ?_, rfl⟩
    first | (rw [show leafS e wd i = 0 ||| (1 : W64) <<< i from if_pos hc0] <;> rfl) | (rw [show leafS e wd i = 0 ||| (1 : W64) <<< (i + 1) from by unfold leafS; rw [if_neg hc0, if_pos (by first | omega | grind)]] <;> rfl) | (rw [show leafS e wd i = 0 from by unfold leafS; rw [if_neg hc0, if_neg (by first | omega | grind)]] <;> rfl)
  ·have hg_3_3' := hg_3_3
   try simp only [bs] at hg_3_3'
   refine QK.pass rfl rfl (hg_3_3) rfl ?_
   refine QK.pass rfl rfl (hg_3_3) rfl ?_
   refine QK.pass rfl rfl (hg_3_3) rfl ?_
   refine QK.pass rfl rfl (hg_3_3) rfl ?_
   refine QK.pass rfl rfl (hg_3_3) rfl ?_
   refine .v (.pickF rfl (hg_3_3) rfl) (.mv rfl ?_)
   refine QK.pass rfl rfl rfl rfl ?_
   refine QK.pass rfl rfl rfl rfl ?_
   refine QK.pass rfl rfl rfl rfl ?_
   refine QK.pass rfl rfl rfl rfl ?_
   refine QK.pass rfl rfl rfl rfl ?_
   refine QK.pass rfl rfl rfl rfl ?_
   refine QK.pass rfl rfl rfl rfl ?_
   refine QK.pass rfl rfl rfl rfl ?_
   refine QK.pass rfl rfl rfl rfl ?_
   refine .v (.pickF rfl (rfl) rfl) (.as rfl ?_)
   refine QK.nil (QK.fin ?_)
   refine AK.then_ (hK3 _ ?_)
   refine AK.cond_f rfl (rfl) ?_
   refine .skip (.block_normal ?_)
   refine AK.endG [] rfl (.nil) (fun w hw => ⟨_, _, _, ?_, rfl, Ret.ofBig0 hw⟩)
   refine ⟨nv, snv, ?_, rfl⟩
   first | (rw [show leafS e wd i = 0 ||| (1 : W64) <<< i from if_pos hc0] <;> rfl) | (rw [show leafS e wd i = 0 ||| (1 : W64) <<< (i + 1) from by unfold leafS; rw [if_neg hc0, if_pos (by first | omega | grind)]] <;> rfl) | (rw [show leafS e wd i = 0 from by unfold leafS; rw [if_neg hc0, if_neg (by first | omega | grind)]] <;> rfl)

theorem leaf_visit (e : Ex) (s : Value) (wd : List UInt8) (hl : wd.length ≤ 62) (hv : validW 6 wd = true) (bm be br : Nat) (vr : Value) (x : W64) (hx : mems x = [0]) (w : World) (F : Nat → Prop) (A : Asn) (pre : List Nat) (i : Nat) (post : List Nat) (hp : pre ++ i :: post = mems x) (hJ : (fun (l : List Nat) (A : Asn) => (l = [] ∧ A = bigA [box bm 113 1 [sv wd], box be 65 3 [.int .i64 e.op, .int .i64 e.lt, s], box br 117 1 [vr], row vr 115 1 (wd.length + 1) (List.replicate (wd.length + 1) nilV)]) ∨ (l = [0] ∧ ∃ nv, IsSl nv ∧ A = bigA [box bm 113 1 [sv wd], box be 65 3 [.int .i64 e.op, .int .i64 e.lt, s], box br 117 1 [vr], row vr 115 1 (wd.length + 1) ((List.replicate (wd.length + 1) nilV).set 0 nv), row nv 127 1 1 ([leafS e wd 0].map uv)])) pre A) (hA : A.holds w F) :
    CallM Tryz.prog 106 [.int .i64 (i : Int), .pointer (some ⟨bm, 0, none⟩), .pointer (some ⟨br, 0, none⟩), .pointer (some ⟨be, 0, none⟩)] w F (fun r A' o => (fun (l : List Nat) (A : Asn) => (l = [] ∧ A = bigA [box bm 113 1 [sv wd], box be 65 3 [.int .i64 e.op, .int .i64 e.lt, s], box br 117 1 [vr], row vr 115 1 (wd.length + 1) (List.replicate (wd.length + 1) nilV)]) ∨ (l = [0] ∧ ∃ nv, IsSl nv ∧ A = bigA [box bm 113 1 [sv wd], box be 65 3 [.int .i64 e.op, .int .i64 e.lt, s], box br 117 1 [vr], row vr 115 1 (wd.length + 1) ((List.replicate (wd.length + 1) nilV).set 0 nv), row nv 127 1 1 ([leafS e wd 0].map uv)])) (pre ++ [i]) A' ∧ o = []) := by
  rw [hx] at hp
  obtain ⟨rfl, rfl, rfl⟩ : pre = [] ∧ i = 0 ∧ post = [] := by
    cases pre with
    | nil => simpa using hp
    | cons a t => simp at hp
  obtain ⟨_, rfl⟩ : _ ∧ _ := by
    rcases hJ with h | ⟨h, _⟩
    · exact h
    · cases h
  refine (s_ends1 w F e s wd hl hv 0 (Nat.zero_le _) bm be br vr hA).mono ?_
  rintro E w' ⟨v, A', own', ⟨nv, snv, hA', ho⟩, h1, h2⟩
  exact ⟨v, A', own', ⟨.inr ⟨rfl, nv, snv, hA'⟩, ho⟩, h1, h2⟩
set_option maxHeartbeats 1000000 in
theorem s_ends (w : World) (e : Ex) (s : Value) (wd : List UInt8) (hl : wd.length ≤ 62) (hv : validW 6 wd = true) (hlf : leafOp e) (f : Value) (x : W64) (hx : mems x = [0]) (hr : RdL (fun _ => False) uv w f [x]) (hT : TbA w) : CallS Tryz.prog 67 [.agg #[sv wd], .agg #[.int .i64 e.op, .int .i64 e.lt, s], f] w (fun r o => ∃ nv, IsSl nv ∧ o = [row r 115 1 (wd.length + 1) ((List.replicate (wd.length + 1) nilV).set 0 nv), row nv 127 1 1 ([leafS e wd 0].map uv)]) := by
 obtain ⟨n4, n5, n6, n7, n8⟩ := hlf
 refine spec_of Tryz.func67 rfl (leb rfl) ?_
 refine .sr fun _ hK1 => ?_
 refine AK.box_ (E := 113) (cs := [sv wd]) rfl rfl rfl trivial rfl (fun bx3 => ?_)
 refine AK.box_ (E := 65) (cs := [.int .i64 e.op, .int .i64 e.lt, s]) rfl rfl rfl trivial rfl (fun bx4 => ?_)
 refine .as rfl (.nt hK1 ?_)
 refine .seq fun _ hK2 => ?_
 refine .sr fun _ hK3 => ?_
 refine .v (.fieldAddr fd65_0 rfl) (.v (.loadBox on3 rfl bsp rfl) (.nt hK3 (.block ?_)))
 refine .sr fun _ hK4 => ?_
 refine .v (.eql rfl rfl) (.as rfl (.nt hK4 ?_))
 refine AK.cond_f rfl (decide_eq_false n5) ?_
 refine .sr fun _ hK5 => ?_
 refine .v (.eql rfl rfl) (.as rfl (.nt hK5 ?_))
 refine AK.cond_f rfl (decide_eq_false n7) ?_
 refine .seq fun _ hK6 => ?_
 refine .sr fun _ hK7 => ?_
 refine .v (.eql rfl rfl) (.as rfl (.nt hK7 ?_))
 refine AK.cond_f rfl (decide_eq_false n4) ?_
 refine AK.region ?_
 refine .v (.eql rfl rfl) (.as rfl (.nt hK6 ?_))
 refine AK.cond_f rfl (decide_eq_false n6) ?_
 refine .sr fun _ hK8 => ?_
 refine .v (.eql rfl rfl) (.as rfl (.nt hK8 ?_))
 refine AK.cond_f rfl (decide_eq_false n8) ?_
 refine .skip (.block_normal ?_)
 refine AK.then_ (hK2 _ ?_)
 refine .sr fun _ hK9 => ?_
 refine .v (.fieldAddr fd113_0 rfl) (.v (.loadBox on9 rfl bsp rfl) (.v (.lenS un9 rfl) ?_))
 refine AK.val (.int .i64 ((wd.length + 1 : Nat) : Int)) (Yl.addE (wd.length + 1) rfl rfl (by omega) (by omega)) trivial rfl ?_
 refine AK.make1 sl117 el115 rfl rfl rfl (by omega) (by omega) trivial rfl (fun mv0 => ?_)
 refine AK.shape 2 rfl (fun smv => ?_)
 refine AK.alloc el117 rfl rfl trivial rfl (fun bx7 => ?_)
 refine AK.storeBox 3 (us := [mv0]) (cs' := [mv0]) rfl sz117 rfl rfl (by rw [IsSl.cells smv]) rfl oneP (leb rfl) rfl trivial ?_
 refine .nt hK9 ?_
 refine .sr fun _ hK10 => ?_
 refine .mv rfl (.v (.makeFunc (first := []) (captured := [.tmp 3, .tmp 7, .tmp 4]) rfl rfl) ?_)
 refine AK.own' [bigA [box bx3 113 1 [sv wd], box bx4 65 3 [.int .i64 e.op, .int .i64 e.lt, s], box bx7 117 1 [mv0], row mv0 115 1 (wd.length + 1) (List.replicate (wd.length + 1) nilV)]] (fun w hw => by have h := HW.unflat (l := [box bx3 113 1 [sv wd], box bx4 65 3 [.int .i64 e.op, .int .i64 e.lt, s], box bx7 117 1 [mv0], row mv0 115 1 (wd.length + 1) (List.replicate (wd.length + 1) nilV)]) (own := []) (hw.pick [0, 1, 3, 2] (by decide) rfl rfl); exact h) ?_
 refine AK.callN 0 rfl co105 rfl (fun w Fs hw hh hfr hal => s_oeach w (Fs 0) (fun (l : List Nat) (A : Asn) => (l = [] ∧ A = bigA [box bx3 113 1 [sv wd], box bx4 65 3 [.int .i64 e.op, .int .i64 e.lt, s], box bx7 117 1 [mv0], row mv0 115 1 (wd.length + 1) (List.replicate (wd.length + 1) nilV)]) ∨ (l = [0] ∧ ∃ nv, IsSl nv ∧ A = bigA [box bx3 113 1 [sv wd], box bx4 65 3 [.int .i64 e.op, .int .i64 e.lt, s], box bx7 117 1 [mv0], row mv0 115 1 (wd.length + 1) ((List.replicate (wd.length + 1) nilV).set 0 nv), row nv 127 1 1 ([leafS e wd 0].map uv)])) (bigA [box bx3 113 1 [sv wd], box bx4 65 3 [.int .i64 e.op, .int .i64 e.lt, s], box bx7 117 1 [mv0], row mv0 115 1 (wd.length + 1) (List.replicate (wd.length + 1) nilV)]) (.inl ⟨rfl, rfl⟩) (hh.at_ 0 _ rfl) f x (RdL.off (f := uv) (xs := [x]) hr hfr hal) (hT.at hw) (fun h0 => by rcases hal 0 0 h0 with h | h; exact absurd h (Nat.not_le.2 hT.lt); exact h) 106 [.pointer (some ⟨bx3, 0, none⟩), .pointer (some ⟨bx7, 0, none⟩), .pointer (some ⟨bx4, 0, none⟩)] co106 (fun w' F' A pre i post hp hJ hA _ _ => leaf_visit e s wd hl hv bx3 bx4 bx7 mv0 x hx w' F' A pre i post hp hJ hA)) trivial rfl ?_
 rintro r A o ⟨hJ, rfl⟩
 obtain ⟨nv, snv, rfl⟩ : ∃ nv, IsSl nv ∧ A = bigA [box bx3 113 1 [sv wd], box bx4 65 3 [.int .i64 e.op, .int .i64 e.lt, s], box bx7 117 1 [mv0], row mv0 115 1 (wd.length + 1) ((List.replicate (wd.length + 1) nilV).set 0 nv), row nv 127 1 1 ([leafS e wd 0].map uv)] := by
  rcases hJ with ⟨h, _⟩ | ⟨_, h⟩
  ·rw [hx] at h; cases h
  ·exact h
 refine AK.flat0 rfl ?_
 refine .nt hK10 ?_
 refine .sr fun _ hK11 => ?_
 refine .v (.loadBox on117 rfl bsp rfl) (.as rfl (.nt hK11 (.ret ?_)))
 refine AK.ret1 rfl rfl (fun w hw => ⟨_, _, ?_, rfl, Ret.of (hw.pick [3, 4] (by decide) rfl rfl)⟩)
 exact ⟨nv, snv, rfl⟩

set_option maxHeartbeats 1000000 in
theorem s_match (w : World) (e : Ex) (s : Value) (h : RdK (cellR (fun _ => False) w) s e.kids) (wd : List UInt8) (hl : wd.length ≤ 62) (hv : validW 6 wd = true) (he : validE e 6 = 0) (hlf : leafOp e) (hT : TbA w) : CallS Tryz.prog 33 [.agg #[.int .i64 e.op, .int .i64 e.lt, s], sv wd] w (fun r o => r = .bool ((leafS e wd 0).getLsbD wd.length) ∧ o = []) := by
 refine spec_of Tryz.func33 rfl (leb rfl) ?_
 refine .sr fun _ hK1 => ?_
 refine AK.box_ (E := 65) (cs := [.int .i64 e.op, .int .i64 e.lt, s]) rfl rfl rfl trivial rfl (fun bx2 => ?_)
 refine .as rfl (.nt hK1 ?_)
 refine .seq fun _ hK2 => ?_
 refine .sr fun _ hK3 => ?_
 refine .v (.loadBoxG ag65 rfl bsp rfl rfl) ?_
 refine AK.call co64 rfl (fun w hw => s_val6 w e s (h.at hw)) trivial rfl ?_
 rintro r o ⟨rfl, rfl⟩
 refine .v (.not rfl) (.mv rfl ?_)
 refine AK.knownF (g := 10) rfl (by rw [he]; rfl) (fun hg_1_3 => ?_)
 refine AK.val _ (Yl.move rfl) ⟨_, rfl, gB hg_1_3⟩ rfl ?_
 refine AK.call co42 rfl (fun w hw => s_wvalid w wd 6 (by omega)) ⟨_, rfl, gB hg_1_3⟩ rfl ?_
 rintro r o ⟨rfl, rfl⟩
 refine AK.val _ (Yl.not rfl) ⟨_, rfl, gB hg_1_3⟩ rfl ?_
 refine .v (.pickF rfl (hg_1_3) rfl) (.nt hK3 ?_)
 refine AK.cond_f rfl (by rw [hv]; rfl) ?_
 refine .skip ?_
 refine AK.then_ (hK2 _ ?_)
 refine .sr fun _ hK4 => ?_
 refine .mv rfl ?_
 refine .v (.build (parts := [(0, .tmp 15)]) (cs := #[sv wd]) rfl (by kernel_rfl)) ?_
 refine AK.alloc el113 rfl rfl trivial rfl (fun bx5 => ?_)
 refine AK.storeBox 1 (us := [sv wd]) (cs' := [sv wd]) rfl sz113 rfl rfl rfl rfl oneP (leb rfl) rfl trivial ?_
 refine .nt hK4 ?_
 refine .sr fun _ hK5 => ?_
 refine .v (.loadBoxG ag113 rfl bsp rfl rfl) ?_
 refine AK.call co65 rfl (fun w hw => s_onone w wd hl) trivial rfl ?_
 rintro fv o ⟨sfv, rfl⟩
 refine .as rfl (.nt hK5 ?_)
 refine .sr fun _ hK6 => ?_
 refine .mv rfl ?_
 refine AK.callN 2 rfl co66 rfl (fun w Fs hw hh hfr hal => s_oadd w (Fs 2) fv 0 0 (by omega) (hh.at_ 2 _ rfl)) trivial rfl ?_
 rintro r A o ⟨rfl, rfl⟩
 refine .nt hK6 ?_
 refine .sr fun _ hK7 => ?_
 refine .v (.loadBoxG ag113 rfl bsp rfl rfl) (.v (.loadBoxG ag65 rfl bsp rfl rfl) (.mv rfl ?_))
 refine AK.call co67 rfl (fun w hw => s_ends w e s wd hl hv hlf fv (0 ||| (1 : W64) <<< 0) (by decide +kernel) (Rd.mono (RdS.own 2 rfl w hw) (fun b _ _ => ⟨id, rfl⟩)) (hT.at hw)) trivial rfl ?_
 rintro rv o ⟨nv, snv, rfl⟩
 refine .v (.idxN (k := 0) sl117 rfl rfl rdp (by decide) (by omega)) ?_
 refine AK.val nv (Yl.valE (Yl.loadV on115 rfl rdp (by rw [List.length_set, List.length_replicate]; omega)) (rep_get (by omega))) trivial rfl ?_
 refine .mv rfl (.v (.lenS un9 rfl) ?_)
 refine AK.call co68 rfl (fun w hw => s_ohas w nv (leafS e wd 0) wd.length (by omega) (Rd.mono (RdS.own 4 rfl w hw) (fun b _ _ => ⟨id, rfl⟩))) trivial rfl ?_
 rintro r o ⟨rfl, rfl⟩
 refine .as rfl (.nt hK7 (.ret ?_))
 refine AK.ret1 rfl rfl (fun w hw => ⟨_, _, ?_, rfl, Ret.of (hw.pick [] (by decide) rfl rfl)⟩)
 exact ⟨rfl, rfl⟩

end Go.Proofs.YtdnhiinakhmhgaaGreatDoor
