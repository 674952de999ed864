import Derived.Test.YtbibnpdnmmgacaaGreatDoorAZo
set_option linter.unusedVariables false
set_option linter.unusedSimpArgs false
set_option maxRecDepth 100000
namespace Go.Proofs.YtbibnpdnmmgacaaGreatDoor
open Go.Sx Go.RowKit
set_option maxHeartbeats 6000000 in
theorem l_adjoint (w : World) (u v : Value) (a b : Dfa) (hu : RdD (fun _ => False) w u a) (hw0 : RdD (fun _ => False) w v b) (vI : Value) (ws : List (List UInt8)) (hI : RdL (fun _ => False) sv w vI ws) (hsz : ∀ x ∈ ws, x.length ≤ 9223372036854775807) (hT : TbA w) : CallS Tryz.prog 5 [u, v, vI] w (fun r o => r = .bool true ∧ o = []) := by
 have hu0 := hu
 have hv0 := hw0
 obtain ⟨uF, uN, rfl, huF, huN⟩ := hu
 obtain ⟨vF, vN, rfl, hvF, hvN⟩ := hw0
 have suF := huF.sl
 have suN : IsSl uN := (by obtain ⟨_, _, h, _⟩ := huN; exact h.sl)
 have svF := hvF.sl
 have svN : IsSl vN := (by obtain ⟨_, _, h, _⟩ := hvN; exact h.sl)
 have hI0 := hI
 have smI := hI.sl
 have hmi := hI.le
 unfold RdL at hI
 refine spec_of Tryz.func5 rfl (leb rfl) ?_
 refine .sr fun _ hK1 => ?_
 refine AK.box_ (E := 32) (cs := [.int .i64 a.L, .int .i64 a.s, uF, uN]) rfl rfl rfl trivial rfl (fun bx3 => ?_)
 refine AK.box_ (E := 32) (cs := [.int .i64 b.L, .int .i64 b.s, vF, vN]) rfl rfl rfl trivial rfl (fun bx4 => ?_)
 refine .as rfl (.nt hK1 ?_)
 refine .seq fun _ hK2 => ?_
 refine .sr fun _ hK3 => ?_
 refine .v (.loadBoxG ag32 rfl bsp rfl rfl) ?_
 refine AK.call co25 rfl (fun w hw => s_small w _ a (hu0.at hw) 3) trivial rfl ?_
 rintro r o ⟨rfl, rfl⟩
 refine .v (.not rfl) (.mv rfl ?_)
 refine AK.splitB (g := 24) rfl (fun hg_1_3 => ?_) (fun hg_1_3 => ?_)
 ·have hg_1_3' := hg_1_3
  try simp only [bs] at hg_1_3'
  refine AK.pass rfl rfl (hg_1_3) rfl ?_
  refine AK.pass rfl rfl (hg_1_3) rfl ?_
  refine AK.pass rfl rfl (hg_1_3) rfl ?_
  refine .v (.pickT rfl (hg_1_3) rfl) (.mv rfl ?_)
  refine AK.pass rfl rfl rfl rfl ?_
  refine AK.pass rfl rfl rfl rfl ?_
  refine AK.pass rfl rfl rfl rfl ?_
  refine AK.pass rfl rfl rfl rfl ?_
  refine AK.pass rfl rfl rfl rfl ?_
  refine .v (.pickT rfl (rfl) rfl) (.mv rfl ?_)
  refine AK.pass rfl rfl rfl rfl ?_
  refine AK.pass rfl rfl rfl rfl ?_
  refine AK.pass rfl rfl rfl rfl ?_
  refine AK.pass rfl rfl rfl rfl ?_
  refine AK.pass rfl rfl rfl rfl ?_
  refine .v (.pickT rfl (rfl) rfl) (.nt hK3 ?_)
  refine AK.cond_t rfl (rfl) ?_
  refine .sr fun _ hK4 => ?_
  refine AK.call co9 rfl (fun w hw => s_awake w (hT.at hw)) trivial rfl ?_
  rintro r o ⟨rfl, rfl⟩
  refine .as rfl (.nt hK4 (.ret (.then_ret ?_)))
  refine AK.ret1 rfl rfl (fun w hw => ⟨_, _, ?_, rfl, Ret.of (hw.pick [] (by decide) rfl rfl)⟩)
  exact ⟨rfl, rfl⟩
 ·have hg_1_3' := hg_1_3
  try simp only [bs] at hg_1_3'
  refine AK.val _ (Yl.loadBoxG ag32 rfl bsp rfl rfl) ⟨_, rfl, gB hg_1_3⟩ rfl ?_
  refine AK.call co25 rfl (fun w hw => s_small w _ b (hv0.at hw) 4) ⟨_, rfl, gB hg_1_3⟩ rfl ?_
  rintro r o ⟨rfl, rfl⟩
  refine AK.val _ (Yl.not rfl) ⟨_, rfl, gB hg_1_3⟩ rfl ?_
  refine .v (.pickF rfl (hg_1_3) rfl) (.mv rfl ?_)
  refine AK.splitB (g := 29) rfl (fun hg_1_8 => ?_) (fun hg_1_8 => ?_)
  ·have hg_1_8' := hg_1_8
   try simp only [bs] at hg_1_8'
   refine AK.pass rfl rfl (hg_1_8) rfl ?_
   refine AK.pass rfl rfl (hg_1_8) rfl ?_
   refine AK.pass rfl rfl (hg_1_8) rfl ?_
   refine AK.pass rfl rfl (hg_1_8) rfl ?_
   refine AK.pass rfl rfl (hg_1_8) rfl ?_
   refine .v (.pickT rfl (hg_1_8) rfl) (.mv rfl ?_)
   refine AK.pass rfl rfl rfl rfl ?_
   refine AK.pass rfl rfl rfl rfl ?_
   refine AK.pass rfl rfl rfl rfl ?_
   refine AK.pass rfl rfl rfl rfl ?_
   refine AK.pass rfl rfl rfl rfl ?_
   refine .v (.pickT rfl (rfl) rfl) (.nt hK3 ?_)
   refine AK.cond_t rfl (rfl) ?_
   refine .sr fun _ hK5 => ?_
   refine AK.call co9 rfl (fun w hw => s_awake w (hT.at hw)) trivial rfl ?_
   rintro r o ⟨rfl, rfl⟩
   refine .as rfl (.nt hK5 (.ret (.then_ret ?_)))
   refine AK.ret1 rfl rfl (fun w hw => ⟨_, _, ?_, rfl, Ret.of (hw.pick [] (by decide) rfl rfl)⟩)
   exact ⟨rfl, rfl⟩
  ·have hg_1_8' := hg_1_8
   try simp only [bs] at hg_1_8'
   refine AK.val _ (Yl.fieldAddr fd32_0 rfl) ⟨_, rfl, gB hg_1_8⟩ rfl ?_
   refine AK.val _ (Yl.loadBox on3 rfl bsp rfl) ⟨_, rfl, gB hg_1_8⟩ rfl ?_
   refine AK.val _ (Yl.fieldAddr fd32_0 rfl) ⟨_, rfl, gB hg_1_8⟩ rfl ?_
   refine AK.val _ (Yl.loadBox on3 rfl bsp rfl) ⟨_, rfl, gB hg_1_8⟩ rfl ?_
   refine AK.val _ (Yl.neq rfl rfl) ⟨_, rfl, gB hg_1_8⟩ rfl ?_
   refine .v (.pickF rfl (hg_1_8) rfl) (.mv rfl ?_)
   refine AK.splitB (g := 36) rfl (fun hg_1_15 => ?_) (fun hg_1_15 => ?_)
   ·have hg_1_15' := hg_1_15
    try simp only [bs] at hg_1_15'
    refine AK.pass rfl rfl (hg_1_15) rfl ?_
    refine AK.pass rfl rfl (hg_1_15) rfl ?_
    refine AK.pass rfl rfl (hg_1_15) rfl ?_
    refine AK.pass rfl rfl (hg_1_15) rfl ?_
    refine AK.pass rfl rfl (hg_1_15) rfl ?_
    refine .v (.pickT rfl (hg_1_15) rfl) (.nt hK3 ?_)
    refine AK.cond_t rfl (rfl) ?_
    refine .sr fun _ hK6 => ?_
    refine AK.call co9 rfl (fun w hw => s_awake w (hT.at hw)) trivial rfl ?_
    rintro r o ⟨rfl, rfl⟩
    refine .as rfl (.nt hK6 (.ret (.then_ret ?_)))
    refine AK.ret1 rfl rfl (fun w hw => ⟨_, _, ?_, rfl, Ret.of (hw.pick [] (by decide) rfl rfl)⟩)
    exact ⟨rfl, rfl⟩
   ·have hg_1_15' := hg_1_15
    try simp only [bs] at hg_1_15'
    refine AK.val _ (Yl.move rfl) ⟨_, rfl, gB hg_1_15⟩ rfl ?_
    refine AK.val _ (Yl.lenR sl56 rfl (by first | exact rdp | exact (.arg hI))) ⟨_, rfl, gB hg_1_15⟩ rfl ?_
    refine AK.val _ (Yl.fieldAddr fd32_0 rfl) ⟨_, rfl, gB hg_1_15⟩ rfl ?_
    refine AK.val _ (Yl.loadBox on3 rfl bsp rfl) ⟨_, rfl, gB hg_1_15⟩ rfl ?_
    refine AK.val _ (Yl.neq rfl rfl) ⟨_, rfl, gB hg_1_15⟩ rfl ?_
    refine .v (.pickF rfl (hg_1_15) rfl) (.nt hK3 ?_)
    refine AK.condNe rfl (fun hc0 => ?_) (fun hc0 => ?_)
    ·refine .sr fun _ hK7 => ?_
     refine AK.call co9 rfl (fun w hw => s_awake w (hT.at hw)) trivial rfl ?_
     rintro r o ⟨rfl, rfl⟩
     refine .as rfl (.nt hK7 (.ret (.then_ret ?_)))
     refine AK.ret1 rfl rfl (fun w hw => ⟨_, _, ?_, rfl, Ret.of (hw.pick [] (by decide) rfl rfl)⟩)
     exact ⟨rfl, rfl⟩
    ·have hsa : smallB a 3 = true := by simpa using hg_1_3
     have hsb : smallB b 4 = true := by simpa using hg_1_8
     have hLab : a.L = b.L := by simpa using hg_1_15
     have hwl : (ws.length : Int) = a.L := by omega
     obtain ⟨ha3, ha2, ha⟩ := smallB_iff.1 hsa
     obtain ⟨hb4, hb2, hb⟩ := smallB_iff.1 hsb
     have haL := ha.L
     refine .skip ?_
     refine AK.then_ (hK2 _ ?_)
     refine .seq fun _ hK8 => ?_
     refine .sr fun _ hK9 => ?_
     refine .mv rfl ?_
     refine .v (.lenR sl56 rfl (by first | exact rdp | exact (.arg hI))) ?_
     refine .mv rfl (.nt hK9 (.block ?_))
     refine AK.loopK (X := Nat) [(2, _), (3, _), (4, _), (44, _), (45, _)] (fun k => [(46, .int .i64 (k : Int))]) (fun k => [box bx3 32 4 [.int .i64 a.L, .int .i64 a.s, uF, uN], box bx4 32 4 [.int .i64 b.L, .int .i64 b.s, vF, vN]]) (fun k => k ≤ ws.length ∧ ∀ i, i < k → 0 < (ws.getD i []).length ∧ (ws.getD i []).length ≤ 3 ∧ validW a.L (ws.getD i []) = true) (fun k => ws.length - k) (0) slr ?_ ?_ ?_ ?_
     ·exact ⟨Nat.zero_le _, fun i hi => by omega⟩
     ·exact slr
     ·exact fun w hw => hw
     ·intro k hg0 _ hK10
      refine .sr fun _ hK11 => ?_
      refine .v (.lss rfl rfl) (.nt hK11 ?_)
      refine .seq fun _ hK12 => ?_
      refine AK.condD rfl (fun hc1 => ?_) (fun hc1 => ?_)
      ·refine .skip ?_
       refine AK.then_ (hK12 _ ?_)
       refine .seq fun _ hK13 => ?_
       refine .block ?_
       refine .sr fun _ hK14 => ?_
       first | refine .v (.iN sl56 rfl rfl (hr := (by first | exact rdp | exact (.arg hI)))) ?_ | refine .v (.iK sl56 rfl rfl (hr := (by first | exact rdp | exact (.arg hI)))) ?_
       refine .v (.loadS on9 rfl (by first | exact rdp | exact (.arg hI)) (by omega)) ?_
       refine .as rfl (.nt hK14 ?_)
       refine .sr fun _ hK15 => ?_
       refine .mv rfl (.v (.eqlS un9 rfl rfl) (.mv rfl ?_))
       refine AK.splitB (g := 52) rfl (fun hg_6_2 => ?_) (fun hg_6_2 => ?_)
       ·have hg_6_2' := hg_6_2
        try simp only [bs] at hg_6_2'
        refine AK.pass rfl rfl (hg_6_2) rfl ?_
        refine AK.pass rfl rfl (hg_6_2) rfl ?_
        refine AK.pass rfl rfl (hg_6_2) rfl ?_
        refine .v (.pickT rfl (hg_6_2) rfl) (.mv rfl ?_)
        refine AK.pass rfl rfl rfl rfl ?_
        refine AK.pass rfl rfl rfl rfl ?_
        refine AK.pass rfl rfl rfl rfl ?_
        refine AK.pass rfl rfl rfl rfl ?_
        refine AK.pass rfl rfl rfl rfl ?_
        refine .v (.pickT rfl (rfl) rfl) (.nt hK15 ?_)
        refine AK.cond_t rfl (rfl) ?_
        refine .sr fun _ hK16 => ?_
        refine AK.call co9 rfl (fun w hw => s_awake w (hT.at hw)) trivial rfl ?_
        rintro r o ⟨rfl, rfl⟩
        refine .as rfl (.nt hK16 (.ret (.block_ret (.then_ret (.then_ret (.block_ret (.then_ret ?_)))))))
        refine AK.ret1 rfl rfl (fun w hw => ⟨_, _, ?_, rfl, Ret.of (hw.pick [] (by decide) rfl rfl)⟩)
        exact ⟨rfl, rfl⟩
       ·have hg_6_2' := hg_6_2
        try simp only [bs] at hg_6_2'
        refine AK.val _ (Yl.move rfl) ⟨_, rfl, gB hg_6_2⟩ rfl ?_
        refine AK.val _ (Yl.lenS un9 rfl) ⟨_, rfl, gB hg_6_2⟩ rfl ?_
        refine AK.val _ (Yl.gtr rfl rfl) ⟨_, rfl, gB hg_6_2⟩ rfl ?_
        refine .v (.pickF rfl (hg_6_2) rfl) (.mv rfl ?_)
        refine AK.splitB (g := 57) rfl (fun hg_6_7 => ?_) (fun hg_6_7 => ?_)
        ·have hg_6_7' := hg_6_7
         try simp only [bs] at hg_6_7'
         refine AK.pass rfl rfl (hg_6_7) rfl ?_
         refine AK.pass rfl rfl (hg_6_7) rfl ?_
         refine AK.pass rfl rfl (hg_6_7) rfl ?_
         refine AK.pass rfl rfl (hg_6_7) rfl ?_
         refine AK.pass rfl rfl (hg_6_7) rfl ?_
         refine .v (.pickT rfl (hg_6_7) rfl) (.nt hK15 ?_)
         refine AK.cond_t rfl (rfl) ?_
         refine .sr fun _ hK17 => ?_
         refine AK.call co9 rfl (fun w hw => s_awake w (hT.at hw)) trivial rfl ?_
         rintro r o ⟨rfl, rfl⟩
         refine .as rfl (.nt hK17 (.ret (.block_ret (.then_ret (.then_ret (.block_ret (.then_ret ?_)))))))
         refine AK.ret1 rfl rfl (fun w hw => ⟨_, _, ?_, rfl, Ret.of (hw.pick [] (by decide) rfl rfl)⟩)
         exact ⟨rfl, rfl⟩
        ·have hg_6_7' := hg_6_7
         try simp only [bs] at hg_6_7'
         refine AK.val _ (Yl.move rfl) ⟨_, rfl, gB hg_6_7⟩ rfl ?_
         refine AK.val _ (Yl.fieldAddr fd32_0 rfl) ⟨_, rfl, gB hg_6_7⟩ rfl ?_
         refine AK.val _ (Yl.loadBox on3 rfl bsp rfl) ⟨_, rfl, gB hg_6_7⟩ rfl ?_
         refine AK.call co8 rfl (fun w hw => s_refwvalid w (ws.getD k []) a.L (hsz _ (getD_mem (by omega)))) ⟨_, rfl, gB hg_6_7⟩ rfl ?_
         rintro r o ⟨rfl, rfl⟩
         refine AK.val _ (Yl.not rfl) ⟨_, rfl, gB hg_6_7⟩ rfl ?_
         refine .v (.pickF rfl (hg_6_7) rfl) (.nt hK15 ?_)
         refine AK.condB rfl (fun hc2 => ?_) (fun hc2 => ?_)
         ·refine .sr fun _ hK18 => ?_
          refine AK.call co9 rfl (fun w hw => s_awake w (hT.at hw)) trivial rfl ?_
          rintro r o ⟨rfl, rfl⟩
          refine .as rfl (.nt hK18 (.ret (.block_ret (.then_ret (.then_ret (.block_ret (.then_ret ?_)))))))
          refine AK.ret1 rfl rfl (fun w hw => ⟨_, _, ?_, rfl, Ret.of (hw.pick [] (by decide) rfl rfl)⟩)
          exact ⟨rfl, rfl⟩
         ·have hk1 : validW a.L (ws.getD k []) = true := by simpa using hc2
          have hk3 : (ws.getD k []).length ≤ 3 := by have := hg_6_7; simp at this; omega
          have hk0 : 0 < (ws.getD k []).length := by have h := hg_6_2; simp at h; exact List.length_pos_iff.2 (by simpa using h)
          refine .skip (.block_normal ?_)
          refine AK.then_ (hK13 _ ?_)
          refine AK.region ?_
          refine .v (.add rfl rfl (by omega)) ?_
          refine .mv rfl (.nil ?_)
          refine AK.then_ (hK10 _ _ (k + 1) ⟨by omega, fun i hi => by rcases Nat.lt_or_ge i k with h | h; exact hg0.2 i h; obtain rfl : i = k := (by omega); exact ⟨hk0, hk3, hk1⟩⟩ (by omega) (slr) (fun w hw => hw))
      ·have hke : k = ws.length := by omega
       subst hke
       have hne : ∀ i, i < ws.length → 0 < (ws.getD i []).length := fun i hi => (hg0.2 i hi).1
       have hws : WsOk a.L a.L ws := ⟨hwl, haL, haL, fun i hi => (hg0.2 i hi).2.2⟩
       have hin := inr_three (fun i hi => (hg0.2 i hi).2.1) ws.length (Nat.le_refl _)
       have hml := min_len ha
       have hS : (minD a).fin.length * (1 + inr ws ws.length) ≤ 64 := Nat.le_trans (Nat.mul_le_mul (show (minD a).fin.length ≤ 3 by omega) (show 1 + inr ws ws.length ≤ 5 by omega)) (by decide)
       refine .exit (.then_exit (.then_exit (.block_exit ?_)))
       refine AK.then_ (hK8 _ ?_)
       refine .sr fun _ hK19 => ?_
       refine .v (.loadBoxG ag32 rfl bsp rfl rfl) (.v (.fieldAddr fd32_0 rfl) (.v (.loadBox on3 rfl bsp rfl) (.mv rfl ?_)))
       refine AK.call co26 rfl (fun w hw => a_image w _ a (hu0.at hw) a.L vI ws (hI0.at hw) ha hws hne hS (hT.at hw)) trivial rfl ?_
       rintro r o ⟨d5, e5, F5, N5, rs5, hL5, hrs5, sF5, sN5, rfl, rfl⟩
       conv => enter [2, 2]; dsimp only [dfaO, List.set_cons_zero, List.set_cons_succ, List.cons_append, List.nil_append]
       refine .mv rfl (.v (.extract rfl rfl) (.v (.extract rfl rfl) ?_))
       refine AK.alloc el32 rfl rfl trivial rfl (fun bx9 => ?_)
       refine AK.storeBox 5 (us := [.int .i64 d5.L, .int .i64 d5.s, F5, N5]) (cs' := [.int .i64 d5.L, .int .i64 d5.s, F5, N5]) rfl sz32 rfl rfl rfl rfl oneP (leb rfl) rfl trivial ?_
       refine .as rfl (.nt hK19 ?_)
       refine .sr fun _ hK20 => ?_
       refine .v (.loadBoxG ag32 rfl bsp rfl rfl) (.mv rfl ?_)
       refine AK.call co27 rfl (fun w hw => a_preimage w _ b (hv0.at hw) vI ws (hI0.at hw) hb a.L (by rw [← hLab]; exact hws)) trivial rfl ?_
       rintro r o ⟨d6, e6, F6, N6, rs6, he6, hL6, hrs6, sF6, sN6, rfl, rfl⟩
       subst he6
       conv => enter [2, 2]; dsimp only [dfaO, List.set_cons_zero, List.set_cons_succ, List.cons_append, List.nil_append]
       refine .mv rfl (.v (.extract rfl rfl) (.v (.extract rfl rfl) ?_))
       refine AK.alloc el32 rfl rfl trivial rfl (fun bx11 => ?_)
       refine AK.storeBox 9 (us := [.int .i64 d6.L, .int .i64 d6.s, F6, N6]) (cs' := [.int .i64 d6.L, .int .i64 d6.s, F6, N6]) rfl sz32 rfl rfl rfl rfl oneP (leb rfl) rfl trivial ?_
       refine .as rfl (.nt hK20 ?_)
       refine .seq fun _ hK21 => ?_
       refine .sr fun _ hK22 => ?_
       refine .mv rfl (.v (.neq rfl rfl) (.mv rfl ?_))
       refine AK.splitB (g := 82) rfl (fun hg_11_2 => ?_) (fun hg_11_2 => ?_)
       ·have hg_11_2' := hg_11_2
        try simp only [bs] at hg_11_2'
        refine AK.pass rfl rfl (hg_11_2) rfl ?_
        refine AK.pass rfl rfl (hg_11_2) rfl ?_
        refine .v (.pickT rfl (hg_11_2) rfl) (.nt hK22 ?_)
        refine AK.cond_t rfl (rfl) ?_
        skip
        refine .sr fun _ hK23 => ?_
        refine .mv rfl ?_
        refine AK.call co13 rfl (fun w hw => s_lim w e5 (by rcases hL5 with h | h; exact .inr h.1; exact .inl h.1)) trivial rfl ?_
        rintro r o ⟨rfl, rfl⟩
        refine .mv rfl ?_
        refine AK.knownT (g := 88) rfl (rfl) (fun hg_12_2 => ?_)
        refine AK.val _ (Yl.move rfl) ⟨_, rfl, gB hg_12_2⟩ rfl ?_
        refine AK.val _ (Yl.eql rfl rfl) ⟨_, rfl, gB hg_12_2⟩ rfl ?_
        refine .v (.pickT rfl (hg_12_2) rfl) (.mv rfl ?_)
        refine AK.knownT (g := 92) rfl (rfl) (fun hg_12_6 => ?_)
        refine AK.call co9 rfl (fun w hw => s_awake w (hT.at hw)) ⟨_, rfl, gB hg_12_6⟩ rfl ?_
        rintro r o ⟨rfl, rfl⟩
        refine .v (.pickT rfl (hg_12_6) rfl) (.as rfl (.nt hK23 (.ret (.then_ret ?_))))
        refine AK.ret1 rfl rfl (fun w hw => ⟨_, _, ?_, rfl, Ret.of (hw.pick [] (by decide) rfl rfl)⟩)
        exact ⟨rfl, rfl⟩
       ·have hg_11_2' := hg_11_2
        try simp only [bs] at hg_11_2'
        refine AK.val _ (Yl.move rfl) ⟨_, rfl, gB hg_11_2⟩ rfl ?_
        refine AK.val _ (Yl.neq rfl rfl) ⟨_, rfl, gB hg_11_2⟩ rfl ?_
        refine .v (.pickF rfl (hg_11_2) rfl) (.nt hK22 ?_)
        refine AK.condNe rfl (fun hc3 => ?_) (fun hc3 => ?_)
        ·skip
         refine .sr fun _ hK24 => ?_
         refine .mv rfl ?_
         refine AK.call co13 rfl (fun w hw => s_lim w e5 (by rcases hL5 with h | h; exact .inr h.1; exact .inl h.1)) trivial rfl ?_
         rintro r o ⟨rfl, rfl⟩
         refine .mv rfl ?_
         refine AK.knownT (g := 88) rfl (rfl) (fun hg_12_2 => ?_)
         refine AK.val _ (Yl.move rfl) ⟨_, rfl, gB hg_12_2⟩ rfl ?_
         refine AK.val _ (Yl.eql rfl rfl) ⟨_, rfl, gB hg_12_2⟩ rfl ?_
         refine .v (.pickT rfl (hg_12_2) rfl) (.mv rfl ?_)
         refine AK.knownT (g := 92) rfl (rfl) (fun hg_12_6 => ?_)
         refine AK.call co9 rfl (fun w hw => s_awake w (hT.at hw)) ⟨_, rfl, gB hg_12_6⟩ rfl ?_
         rintro r o ⟨rfl, rfl⟩
         refine .v (.pickT rfl (hg_12_6) rfl) (.as rfl (.nt hK24 (.ret (.then_ret ?_))))
         refine AK.ret1 rfl rfl (fun w hw => ⟨_, _, ?_, rfl, Ret.of (hw.pick [] (by decide) rfl rfl)⟩)
         exact ⟨rfl, rfl⟩
        ·have he5 : e5 = 0 := by simpa using hg_11_2
         obtain ⟨_, hx1, hx2, hx3, hx4⟩ := hL5.resolve_left (fun h => by have := h.1; omega)
         obtain ⟨_, hy1, hy2, hy3, hy4⟩ := hL6.resolve_left (fun h => by have := h.1; omega)
         refine .skip ?_
         refine AK.then_ (hK21 _ ?_)
         refine .sr fun _ hK25 => ?_
         refine .v (.loadBoxG ag32 rfl bsp rfl rfl) (.v (.loadBoxG ag32 rfl bsp rfl rfl) ?_)
         refine AK.call co28 rfl (fun w hw => a_combine w _ _ d5 b (RdD.own 2 hw hrs5 rfl rfl rfl) (hv0.at hw) hx1 hb 4 (by omega) (hx2.trans hLab)) trivial rfl ?_
         rintro r o ⟨d9, e9, F9, N9, rs9, hL9, hrs9, sF9, sN9, rfl, rfl⟩
         conv => enter [2, 2]; dsimp only [dfaO, List.set_cons_zero, List.set_cons_succ, List.cons_append, List.nil_append]
         refine .mv rfl (.v (.extract rfl rfl) (.v (.extract rfl rfl) ?_))
         refine AK.alloc el32 rfl rfl trivial rfl (fun bx13 => ?_)
         refine AK.storeBox 13 (us := [.int .i64 d9.L, .int .i64 d9.s, F9, N9]) (cs' := [.int .i64 d9.L, .int .i64 d9.s, F9, N9]) rfl sz32 rfl rfl rfl rfl oneP (leb rfl) rfl trivial ?_
         refine .as rfl (.nt hK25 ?_)
         refine .sr fun _ hK26 => ?_
         refine .v (.loadBoxG ag32 rfl bsp rfl rfl) (.v (.loadBoxG ag32 rfl bsp rfl rfl) ?_)
         refine AK.call co28 rfl (fun w hw => a_combine w _ _ a d6 (hu0.at hw) (RdD.own 6 hw hrs6 rfl rfl rfl) ha hy1 4 (by omega) hy2.symm) trivial rfl ?_
         rintro r o ⟨d10, e10, F10, N10, rs10, hL10, hrs10, sF10, sN10, rfl, rfl⟩
         conv => enter [2, 2]; dsimp only [dfaO, List.set_cons_zero, List.set_cons_succ, List.cons_append, List.nil_append]
         refine .mv rfl (.v (.extract rfl rfl) (.v (.extract rfl rfl) ?_))
         refine AK.alloc el32 rfl rfl trivial rfl (fun bx15 => ?_)
         refine AK.storeBox 17 (us := [.int .i64 d10.L, .int .i64 d10.s, F10, N10]) (cs' := [.int .i64 d10.L, .int .i64 d10.s, F10, N10]) rfl sz32 rfl rfl rfl rfl oneP (leb rfl) rfl trivial ?_
         refine .as rfl (.nt hK26 ?_)
         refine .seq fun _ hK27 => ?_
         refine .sr fun _ hK28 => ?_
         refine .mv rfl (.v (.neq rfl rfl) (.mv rfl ?_))
         refine AK.splitB (g := 109) rfl (fun hg_15_2 => ?_) (fun hg_15_2 => ?_)
         ·have hg_15_2' := hg_15_2
          try simp only [bs] at hg_15_2'
          refine AK.pass rfl rfl (hg_15_2) rfl ?_
          refine AK.pass rfl rfl (hg_15_2) rfl ?_
          refine .v (.pickT rfl (hg_15_2) rfl) (.nt hK28 ?_)
          refine AK.cond_t rfl (rfl) ?_
          refine .sr fun _ hK29 => ?_
          refine .mv rfl ?_
          refine AK.call co13 rfl (fun w hw => s_lim w e9 (by rcases hL9 with h | h; exact .inr h.1; exact .inl h.1)) trivial rfl ?_
          rintro r o ⟨rfl, rfl⟩
          refine .mv rfl ?_
          refine AK.knownT (g := 115) rfl (rfl) (fun hg_16_2 => ?_)
          refine AK.val _ (Yl.move rfl) ⟨_, rfl, gB hg_16_2⟩ rfl ?_
          refine AK.call co13 rfl (fun w hw => s_lim w e10 (by rcases hL10 with h | h; exact .inr h.1; exact .inl h.1)) ⟨_, rfl, gB hg_16_2⟩ rfl ?_
          rintro r o ⟨rfl, rfl⟩
          refine .v (.pickT rfl (hg_16_2) rfl) (.mv rfl ?_)
          refine AK.knownT (g := 119) rfl (rfl) (fun hg_16_6 => ?_)
          refine AK.call co9 rfl (fun w hw => s_awake w (hT.at hw)) ⟨_, rfl, gB hg_16_6⟩ rfl ?_
          rintro r o ⟨rfl, rfl⟩
          refine .v (.pickT rfl (hg_16_6) rfl) (.as rfl (.nt hK29 (.ret (.then_ret ?_))))
          refine AK.ret1 rfl rfl (fun w hw => ⟨_, _, ?_, rfl, Ret.of (hw.pick [] (by decide) rfl rfl)⟩)
          exact ⟨rfl, rfl⟩
         ·have hg_15_2' := hg_15_2
          try simp only [bs] at hg_15_2'
          refine AK.val _ (Yl.move rfl) ⟨_, rfl, gB hg_15_2⟩ rfl ?_
          refine AK.val _ (Yl.neq rfl rfl) ⟨_, rfl, gB hg_15_2⟩ rfl ?_
          refine .v (.pickF rfl (hg_15_2) rfl) (.nt hK28 ?_)
          refine AK.condNe rfl (fun hc4 => ?_) (fun hc4 => ?_)
          ·refine .sr fun _ hK30 => ?_
           refine .mv rfl ?_
           refine AK.call co13 rfl (fun w hw => s_lim w e9 (by rcases hL9 with h | h; exact .inr h.1; exact .inl h.1)) trivial rfl ?_
           rintro r o ⟨rfl, rfl⟩
           refine .mv rfl ?_
           refine AK.knownT (g := 115) rfl (rfl) (fun hg_16_2 => ?_)
           refine AK.val _ (Yl.move rfl) ⟨_, rfl, gB hg_16_2⟩ rfl ?_
           refine AK.call co13 rfl (fun w hw => s_lim w e10 (by rcases hL10 with h | h; exact .inr h.1; exact .inl h.1)) ⟨_, rfl, gB hg_16_2⟩ rfl ?_
           rintro r o ⟨rfl, rfl⟩
           refine .v (.pickT rfl (hg_16_2) rfl) (.mv rfl ?_)
           refine AK.knownT (g := 119) rfl (rfl) (fun hg_16_6 => ?_)
           refine AK.call co9 rfl (fun w hw => s_awake w (hT.at hw)) ⟨_, rfl, gB hg_16_6⟩ rfl ?_
           rintro r o ⟨rfl, rfl⟩
           refine .v (.pickT rfl (hg_16_6) rfl) (.as rfl (.nt hK30 (.ret (.then_ret ?_))))
           refine AK.ret1 rfl rfl (fun w hw => ⟨_, _, ?_, rfl, Ret.of (hw.pick [] (by decide) rfl rfl)⟩)
           exact ⟨rfl, rfl⟩
          ·have he9 : e9 = 0 := by simpa using hg_15_2
           have he10 : e10 = 0 := by omega
           obtain ⟨_, hu1, hu2, hu3, hu4⟩ := hL9.resolve_left (fun h => by have := h.1; omega)
           obtain ⟨_, hd1, hd2, hd3, hd4⟩ := hL10.resolve_left (fun h => by have := h.1; omega)
           have hadj := adj_ok hws hu1 hd1 hx2 hu2 hd2 hx4 hy4 hu4 hd4
           refine .skip ?_
           refine AK.then_ (hK27 _ ?_)
           refine .sr fun _ hK31 => ?_
           refine .v (.loadBoxG ag32 rfl bsp rfl rfl) ?_
           refine AK.call co29 rfl (fun w hw => s_shortest w _ d9 (RdD.own 10 hw hrs9 rfl rfl rfl)) trivial rfl ?_
           rintro r o ⟨rfl, rfl⟩
           refine .mv rfl (.v (.extract rfl rfl) (.v (.extract rfl rfl) (.as rfl (.as rfl (.nt hK31 ?_)))))
           refine .sr fun _ hK32 => ?_
           refine .v (.loadBoxG ag32 rfl bsp rfl rfl) ?_
           refine AK.call co29 rfl (fun w hw => s_shortest w _ d10 (RdD.own 14 hw hrs10 rfl rfl rfl)) trivial rfl ?_
           rintro r o ⟨rfl, rfl⟩
           refine .mv rfl (.v (.extract rfl rfl) (.v (.extract rfl rfl) (.as rfl (.as rfl (.nt hK32 ?_)))))
           refine .sr fun _ hK33 => ?_
           refine .v (.loadBoxG ag32 rfl bsp rfl rfl) ?_
           refine AK.call co23 rfl (fun w hw => s_validate w _ d9 (RdD.own 10 hw hrs9 rfl rfl rfl)) trivial rfl ?_
           rintro r o ⟨rfl, rfl⟩
           refine .v (.eql rfl rfl) (.mv rfl ?_)
           refine AK.knownT (g := 135) rfl (decide_eq_true ((errV_iff _).2 hu1)) (fun hg_19_3 => ?_)
           refine AK.val _ (Yl.loadBoxG ag32 rfl bsp rfl rfl) ⟨_, rfl, gB hg_19_3⟩ rfl ?_
           refine AK.call co23 rfl (fun w hw => s_validate w _ d10 (RdD.own 14 hw hrs10 rfl rfl rfl)) ⟨_, rfl, gB hg_19_3⟩ rfl ?_
           rintro r o ⟨rfl, rfl⟩
           refine AK.val _ (Yl.eql rfl rfl) ⟨_, rfl, gB hg_19_3⟩ rfl ?_
           refine .v (.pickT rfl (hg_19_3) rfl) (.mv rfl ?_)
           refine AK.knownT (g := 140) rfl (decide_eq_true ((errV_iff _).2 hd1)) (fun hg_19_8 => ?_)
           refine AK.val _ (Yl.move rfl) ⟨_, rfl, gB hg_19_8⟩ rfl ?_
           refine AK.val _ (Yl.move rfl) ⟨_, rfl, gB hg_19_8⟩ rfl ?_
           refine AK.val _ (Yl.eqlB bo4 rfl rfl) ⟨_, rfl, gB hg_19_8⟩ rfl ?_
           refine .v (.pickT rfl (hg_19_8) rfl) (.mv rfl ?_)
           refine AK.knownT (g := 145) rfl ((by rw [hadj]; simp)) (fun hg_19_13 => ?_)
           refine AK.call co9 rfl (fun w hw => s_awake w (hT.at hw)) ⟨_, rfl, gB hg_19_13⟩ rfl ?_
           rintro r o ⟨rfl, rfl⟩
           refine .v (.pickT rfl (hg_19_13) rfl) (.as rfl (.nt hK33 (.ret ?_)))
           refine AK.ret1 rfl rfl (fun w hw => ⟨_, _, ?_, rfl, Ret.of (hw.pick [] (by decide) rfl rfl)⟩)
           exact ⟨rfl, rfl⟩

end Go.Proofs.YtbibnpdnmmgacaaGreatDoor
