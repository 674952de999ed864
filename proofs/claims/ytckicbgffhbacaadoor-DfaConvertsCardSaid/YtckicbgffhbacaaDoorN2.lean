import Derived.Test.YtckicbgffhbacaaDoorN1
import Derived.Test.YtckicbgffhbacaaDoorD2
set_option linter.unusedVariables false
set_option linter.unusedSimpArgs false
namespace Go.Proofs.YtckicbgffhbacaaDoor
open Go.Sx Go.RowKit
theorem eqe51 : eqE3B Tryd.prog 51 = true := by kernel_rfl
theorem any_at' {n : Nfa} {k : Nat} (hk : k < n.es.length) (h : badE n k = true) : (List.range n.es.length).any (badE n) = true := List.any_eq_true.2 ⟨k, List.mem_range.2 hk, h⟩
theorem no_any {n : Nfa} (h : ∀ j, j < n.es.length → badE n j = false) : ¬ (List.range n.es.length).any (badE n) = true := by
  rw [Bool.not_eq_true, List.any_eq_false]
  intro x hx
  rw [h x (List.mem_range.1 hx)]; decide
theorem badE_b {n : Nfa} {k : Nat} (h : badB n k = true) : badE n k = true := by unfold badE; rw [h]; rfl
theorem badE_o {n : Nfa} {k : Nat} (hk : 0 < k) (h : bef (n.es.getD (k - 1) (0, 0, 0)) (n.es.getD k (0, 0, 0)) = false) : badE n k = true := by unfold badE; rw [h, decide_eq_true hk]; cases badB n k <;> rfl
theorem badE_no {n : Nfa} {k : Nat} (h : badB n k = false) (h2 : 0 < k → bef (n.es.getD (k - 1) (0, 0, 0)) (n.es.getD k (0, 0, 0)) = true) : badE n k = false := by
  unfold badE; rw [h]
  by_cases hk : 0 < k
  · rw [h2 hk]; simp
  · rw [decide_eq_false hk]; rfl
theorem bef_no {a b : Edg} (h : a = b ∨ 0 < cmpE a b) : bef a b = false := by
  cases e : bef a b
  · rfl
  · exact absurd h (bef_iff.1 e)
theorem or_below {a m : W64} : (a ||| m = m) ↔ a &&& ~~~m = 0 := by
  constructor
  · intro h
    apply BitVec.eq_of_getLsbD_eq
    intro i hi
    have := congrArg (fun x => BitVec.getLsbD x i) h
    simp only [BitVec.getLsbD_or, BitVec.getLsbD_and, BitVec.getLsbD_not] at this ⊢
    cases h1 : a.getLsbD i <;> cases h2 : m.getLsbD i <;> simp_all
  · intro h
    apply BitVec.eq_of_getLsbD_eq
    intro i hi
    have := congrArg (fun x => BitVec.getLsbD x i) h
    simp only [BitVec.getLsbD_or, BitVec.getLsbD_and, BitVec.getLsbD_not] at this ⊢
    cases h1 : a.getLsbD i <;> cases h2 : m.getLsbD i <;> simp_all
theorem and_or0 {a b m : W64} : (a ||| b) &&& ~~~m = 0 ↔ (a &&& ~~~m = 0 ∧ b &&& ~~~m = 0) := by
  constructor
  · intro h
    constructor
    all_goals
      apply BitVec.eq_of_getLsbD_eq
      intro i hi
      have := congrArg (fun x => BitVec.getLsbD x i) h
      simp only [BitVec.getLsbD_or, BitVec.getLsbD_and, BitVec.getLsbD_not] at this ⊢
      cases h1 : a.getLsbD i <;> cases h2 : m.getLsbD i <;> cases h3 : b.getLsbD i <;> simp_all
  · rintro ⟨h, h'⟩
    apply BitVec.eq_of_getLsbD_eq
    intro i hi
    have k1 := congrArg (fun x => BitVec.getLsbD x i) h
    have k2 := congrArg (fun x => BitVec.getLsbD x i) h'
    simp only [BitVec.getLsbD_or, BitVec.getLsbD_and, BitVec.getLsbD_not] at k1 k2 ⊢
    cases h1 : a.getLsbD i <;> cases h2 : m.getLsbD i <;> cases h3 : b.getLsbD i <;> simp_all
set_option maxHeartbeats 2000000 in
set_option maxRecDepth 100000 in
theorem s_nvalidate (w : World) (v : Value) (n : Nfa) (h : RdN (fun _ => False) w v n) : CallS Tryd.prog 24 [v] w (fun r o => r = .int .i64 (errN n) ∧ o = []) := by
 have h0 := h
 obtain ⟨vE, rfl, hE⟩ := h
 have sE := Rd.sl hE
 have hme := Rd.le hE
 refine spec_of Tryd.func24 rfl (Nat.le_of_ble_eq_true rfl) ?_
 refine .sr fun _ hK1 => ?_
 refine AK.box_ (E := 25) (cs := [.int .i64 n.L, .int .i64 n.S, uv n.st, uv n.fi, vE]) rfl rfl rfl trivial rfl (fun bx1 => ?_)
 refine .as rfl (.nt hK1 ?_)
 refine .seq fun _ hK2 => ?_
 refine .sr fun _ hK3 => ?_
 refine .v (.fieldAddr fd25_0 rfl) ?_
 refine .v (.loadBox on3 rfl bsp rfl) ?_
 refine .v (.lss rfl rfl) ?_
 refine .mv rfl ?_
 refine AK.splitB (g := 8) rfl (fun hg_1_3 => ?_) (fun hg_1_3 => ?_)
 ·have hg_1_3' := hg_1_3
  try simp only [bs] at hg_1_3'
  refine AK.pass rfl rfl (hg_1_3) rfl ?_
  refine AK.pass rfl rfl (hg_1_3) rfl ?_
  refine AK.pass rfl rfl (hg_1_3) rfl ?_
  refine .v (.pickT rfl (hg_1_3) rfl) ?_
  refine .mv rfl ?_
  refine AK.pass rfl rfl rfl rfl ?_
  refine AK.pass rfl rfl rfl rfl ?_
  refine AK.pass rfl rfl rfl rfl ?_
  refine .v (.pickT rfl (rfl) rfl) ?_
  refine .mv rfl ?_
  refine AK.pass rfl rfl rfl rfl ?_
  refine AK.pass rfl rfl rfl rfl ?_
  refine AK.pass rfl rfl rfl rfl ?_
  refine .v (.pickT rfl (rfl) rfl) ?_
  refine .nt hK3 ?_
  refine AK.cond_t rfl (rfl) ?_
  refine .sr fun _ hK4 => ?_
  refine .as rfl (.nt hK4 (.ret (.then_ret ?_)))
  refine AK.ret1 rfl rfl (fun w hw => ⟨_, _, ?_, rfl, Ret.of (hw.pick [] (by decide) rfl rfl)⟩)
  refine ⟨congrArg (Value.int .i64) ?_, rfl⟩
  unfold errN
  rw [if_pos (by omega)]
 ·have hg_1_3' := hg_1_3
  try simp only [bs] at hg_1_3'
  refine AK.val _ (Yl.fieldAddr fd25_0 rfl) ⟨_, rfl, congrArg (fun b => some (Value.bool b)) hg_1_3⟩ rfl ?_
  refine AK.val _ (Yl.loadBox on3 rfl bsp rfl) ⟨_, rfl, congrArg (fun b => some (Value.bool b)) hg_1_3⟩ rfl ?_
  refine AK.val _ (Yl.gtr rfl rfl) ⟨_, rfl, congrArg (fun b => some (Value.bool b)) hg_1_3⟩ rfl ?_
  refine .v (.pickF rfl (hg_1_3) rfl) ?_
  refine .mv rfl ?_
  refine AK.splitB (g := 13) rfl (fun hg_1_8 => ?_) (fun hg_1_8 => ?_)
  ·have hg_1_8' := hg_1_8
   try simp only [bs] at hg_1_8'
   refine AK.pass rfl rfl (hg_1_8) rfl ?_
   refine AK.pass rfl rfl (hg_1_8) rfl ?_
   refine AK.pass rfl rfl (hg_1_8) rfl ?_
   refine .v (.pickT rfl (hg_1_8) rfl) ?_
   refine .mv rfl ?_
   refine AK.pass rfl rfl rfl rfl ?_
   refine AK.pass rfl rfl rfl rfl ?_
   refine AK.pass rfl rfl rfl rfl ?_
   refine .v (.pickT rfl (rfl) rfl) ?_
   refine .nt hK3 ?_
   refine AK.cond_t rfl (rfl) ?_
   refine .sr fun _ hK5 => ?_
   refine .as rfl (.nt hK5 (.ret (.then_ret ?_)))
   refine AK.ret1 rfl rfl (fun w hw => ⟨_, _, ?_, rfl, Ret.of (hw.pick [] (by decide) rfl rfl)⟩)
   refine ⟨congrArg (Value.int .i64) ?_, rfl⟩
   unfold errN
   rw [if_pos (by omega)]
  ·have hg_1_8' := hg_1_8
   try simp only [bs] at hg_1_8'
   refine AK.val _ (Yl.fieldAddr fd25_1 rfl) ⟨_, rfl, congrArg (fun b => some (Value.bool b)) hg_1_8⟩ rfl ?_
   refine AK.val _ (Yl.loadBox on3 rfl bsp rfl) ⟨_, rfl, congrArg (fun b => some (Value.bool b)) hg_1_8⟩ rfl ?_
   refine AK.val _ (Yl.lss rfl rfl) ⟨_, rfl, congrArg (fun b => some (Value.bool b)) hg_1_8⟩ rfl ?_
   refine .v (.pickF rfl (hg_1_8) rfl) ?_
   refine .mv rfl ?_
   refine AK.splitB (g := 18) rfl (fun hg_1_13 => ?_) (fun hg_1_13 => ?_)
   ·have hg_1_13' := hg_1_13
    try simp only [bs] at hg_1_13'
    refine AK.pass rfl rfl (hg_1_13) rfl ?_
    refine AK.pass rfl rfl (hg_1_13) rfl ?_
    refine AK.pass rfl rfl (hg_1_13) rfl ?_
    refine .v (.pickT rfl (hg_1_13) rfl) ?_
    refine .nt hK3 ?_
    refine AK.cond_t rfl (rfl) ?_
    refine .sr fun _ hK6 => ?_
    refine .as rfl (.nt hK6 (.ret (.then_ret ?_)))
    refine AK.ret1 rfl rfl (fun w hw => ⟨_, _, ?_, rfl, Ret.of (hw.pick [] (by decide) rfl rfl)⟩)
    refine ⟨congrArg (Value.int .i64) ?_, rfl⟩
    unfold errN
    rw [if_pos (by omega)]
   ·have hg_1_13' := hg_1_13
    try simp only [bs] at hg_1_13'
    refine AK.val _ (Yl.fieldAddr fd25_1 rfl) ⟨_, rfl, congrArg (fun b => some (Value.bool b)) hg_1_13⟩ rfl ?_
    refine AK.val _ (Yl.loadBox on3 rfl bsp rfl) ⟨_, rfl, congrArg (fun b => some (Value.bool b)) hg_1_13⟩ rfl ?_
    refine AK.val _ (Yl.gtr rfl rfl) ⟨_, rfl, congrArg (fun b => some (Value.bool b)) hg_1_13⟩ rfl ?_
    refine .v (.pickF rfl (hg_1_13) rfl) ?_
    refine .nt hK3 ?_
    refine AK.condD rfl (fun hc0 => ?_) (fun hc0 => ?_)
    ·refine .sr fun _ hK7 => ?_
     refine .as rfl (.nt hK7 (.ret (.then_ret ?_)))
     refine AK.ret1 rfl rfl (fun w hw => ⟨_, _, ?_, rfl, Ret.of (hw.pick [] (by decide) rfl rfl)⟩)
     refine ⟨congrArg (Value.int .i64) ?_, rfl⟩
     unfold errN
     rw [if_pos (by omega)]
    ·have hc0' : ¬ (¬ (1 ≤ n.L ∧ n.L ≤ 6) ∨ n.S < 0 ∨ n.S > 64) := (by omega)
     refine .skip ?_
     refine AK.then_ (hK2 _ ?_)
     refine .seq fun _ hK8 => ?_
     refine .seq fun _ hK9 => ?_
     refine AK.quiet mixed krf ?_
     refine .v (.fieldAddr fd25_2 rfl) ?_
     refine .v (.loadBox on22 rfl bsp rfl) ?_
     refine .v (.fieldAddr fd25_3 rfl) ?_
     refine .v (.loadBox on22 rfl bsp rfl) ?_
     refine .v (.orU rfl rfl) ?_
     refine .v (.fieldAddr fd25_1 rfl) ?_
     refine .v (.loadBox on3 rfl bsp rfl) ?_
     refine QK.call (uv (below n.S)) co40 rfl (fun w hw => s_states w n.S (by omega)) (fun v o h => h.1) trivial rfl ?_
     refine .v (.andNotU rfl rfl) ?_
     refine .v (.neqU (b := 0) rfl rfl) ?_
     refine QK.nil (QK.fin ?_)
     refine AK.then_ (hK9 _ ?_)
     refine AK.condNe rfl (fun hc1 => ?_) (fun hc1 => ?_)
     ·refine .sr fun _ hK10 => ?_
      refine .as rfl (.nt hK10 (.ret (.then_ret ?_)))
      refine AK.ret1 rfl rfl (fun w hw => ⟨_, _, ?_, rfl, Ret.of (hw.pick [] (by decide) rfl rfl)⟩)
      refine ⟨congrArg (Value.int .i64) ?_, rfl⟩
      unfold errN
      rw [if_neg hc0', if_pos (by assumption)]
     ·have hc1' : ¬ ((n.st ||| n.fi) &&& ~~~(below n.S) ≠ 0) := (by first | exact hc1 | exact not_not_intro hc1)
      refine .skip ?_
      refine AK.then_ (hK8 _ ?_)
      refine .seq fun _ hK11 => ?_
      refine .sr fun _ hK12 => ?_
      refine .v (.fieldAddr fd25_4 rfl) ?_
      refine .v (.loadBox on23 rfl bsp rfl) ?_
      refine .v (.lenR sl23 rfl rdp) ?_
      refine .mv rfl (.nt hK12 (.block ?_))
      refine AK.loopK (X := Nat) [(1, _), (34, _), (35, _)] (fun k => [(36, .int .i64 (k : Int))]) (fun k => [box bx1 25 5 [.int .i64 n.L, .int .i64 n.S, uv n.st, uv n.fi, vE]]) (fun k => k ≤ n.es.length ∧ ∀ j, j < k → badE n j = false) (fun k => n.es.length - k) (0) slr ?_ ?_ ?_ ?_
      ·exact ⟨Nat.zero_le _, fun j hj => by omega⟩
      ·exact slr
      ·exact fun w hw => hw
      ·intro k hg0 _ hK13
       refine .sr fun _ hK14 => ?_
       refine .v (.lss rfl rfl) ?_
       refine .nt hK14 ?_
       refine .seq fun _ hK15 => ?_
       refine AK.condD rfl (fun hc2 => ?_) (fun hc2 => ?_)
       ·refine .skip ?_
        refine AK.then_ (hK15 _ ?_)
        refine .seq fun _ hK16 => ?_
        refine .block ?_
        refine .sr fun _ hK17 => ?_
        refine .mv rfl ?_
        first | refine .v (.iN sl23 rfl rfl) ?_ | refine .v (.iK sl23 rfl rfl) ?_
        refine .v (.loadEd ag51 rfl rdp (by omega)) ?_
        refine AK.alloc el51 rfl rfl trivial rfl (fun bx4 => ?_)
        refine .as rfl ?_
        refine AK.storeBox 1 (us := ecs (n.es.getD k (0, 0, 0))) (cs' := ecs (n.es.getD k (0, 0, 0))) rfl sz51 rfl rfl rfl rfl (ecs_one _) (Nat.le_of_ble_eq_true rfl) rfl trivial ?_
        refine .nt hK17 ?_
        refine .seq fun _ hK18 => ?_
        refine .sr fun _ hK19 => ?_
        refine .v (.fieldAddr fd51_0 rfl) ?_
        refine .v (.loadBox on3 rfl bsp rfl) ?_
        refine .v (.fieldAddr fd51_1 rfl) ?_
        refine .v (.loadBox on3 rfl bsp rfl) ?_
        refine .v (.fieldAddr fd51_2 rfl) ?_
        refine .v (.loadBox on3 rfl bsp rfl) ?_
        refine .v (.min3 rfl rfl rfl) ?_
        refine .v (.lss rfl rfl) ?_
        refine .mv rfl ?_
        refine AK.splitB (g := 49) rfl (fun hg_8_8 => ?_) (fun hg_8_8 => ?_)
        ·have hg_8_8' := hg_8_8
         try simp only [bs] at hg_8_8'
         refine AK.pass rfl rfl (hg_8_8) rfl ?_
         refine AK.pass rfl rfl (hg_8_8) rfl ?_
         refine AK.pass rfl rfl (hg_8_8) rfl ?_
         refine AK.pass rfl rfl (hg_8_8) rfl ?_
         refine AK.pass rfl rfl (hg_8_8) rfl ?_
         refine AK.pass rfl rfl (hg_8_8) rfl ?_
         refine AK.pass rfl rfl (hg_8_8) rfl ?_
         refine AK.pass rfl rfl (hg_8_8) rfl ?_
         refine .v (.pickT rfl (hg_8_8) rfl) ?_
         refine .mv rfl ?_
         refine AK.pass rfl rfl rfl rfl ?_
         refine AK.pass rfl rfl rfl rfl ?_
         refine AK.pass rfl rfl rfl rfl ?_
         refine AK.pass rfl rfl rfl rfl ?_
         refine AK.pass rfl rfl rfl rfl ?_
         refine .v (.pickT rfl (rfl) rfl) ?_
         refine .nt hK19 ?_
         refine AK.cond_t rfl (rfl) ?_
         refine .sr fun _ hK20 => ?_
         refine .as rfl (.nt hK20 (.ret (.then_ret (.block_ret (.then_ret (.then_ret (.block_ret (.then_ret ?_))))))))
         refine AK.ret1 rfl rfl (fun w hw => ⟨_, _, ?_, rfl, Ret.of (hw.pick [] (by decide) rfl rfl)⟩)
         refine ⟨congrArg (Value.int .i64) ?_, rfl⟩
         first | rfl | skip
         unfold errN
         rw [if_neg hc0', if_neg hc1', if_pos (any_at' (k := k) (by omega) (badE_b (by unfold badB; exact decide_eq_true (by omega))))]
        ·have hg_8_8' := hg_8_8
         try simp only [bs] at hg_8_8'
         refine AK.val _ (Yl.fieldAddr fd51_0 rfl) ⟨_, rfl, congrArg (fun b => some (Value.bool b)) hg_8_8⟩ rfl ?_
         refine AK.val _ (Yl.loadBox on3 rfl bsp rfl) ⟨_, rfl, congrArg (fun b => some (Value.bool b)) hg_8_8⟩ rfl ?_
         refine AK.val _ (Yl.fieldAddr fd51_2 rfl) ⟨_, rfl, congrArg (fun b => some (Value.bool b)) hg_8_8⟩ rfl ?_
         refine AK.val _ (Yl.loadBox on3 rfl bsp rfl) ⟨_, rfl, congrArg (fun b => some (Value.bool b)) hg_8_8⟩ rfl ?_
         refine AK.val _ (Yl.max rfl rfl) ⟨_, rfl, congrArg (fun b => some (Value.bool b)) hg_8_8⟩ rfl ?_
         refine AK.val _ (Yl.fieldAddr fd25_1 rfl) ⟨_, rfl, congrArg (fun b => some (Value.bool b)) hg_8_8⟩ rfl ?_
         refine AK.val _ (Yl.loadBox on3 rfl bsp rfl) ⟨_, rfl, congrArg (fun b => some (Value.bool b)) hg_8_8⟩ rfl ?_
         refine AK.val _ (Yl.geq rfl rfl) ⟨_, rfl, congrArg (fun b => some (Value.bool b)) hg_8_8⟩ rfl ?_
         refine .v (.pickF rfl (hg_8_8) rfl) ?_
         refine .mv rfl ?_
         refine AK.splitB (g := 59) rfl (fun hg_8_18 => ?_) (fun hg_8_18 => ?_)
         ·have hg_8_18' := hg_8_18
          try simp only [bs] at hg_8_18'
          refine AK.pass rfl rfl (hg_8_18) rfl ?_
          refine AK.pass rfl rfl (hg_8_18) rfl ?_
          refine AK.pass rfl rfl (hg_8_18) rfl ?_
          refine AK.pass rfl rfl (hg_8_18) rfl ?_
          refine AK.pass rfl rfl (hg_8_18) rfl ?_
          refine .v (.pickT rfl (hg_8_18) rfl) ?_
          refine .nt hK19 ?_
          refine AK.cond_t rfl (rfl) ?_
          refine .sr fun _ hK21 => ?_
          refine .as rfl (.nt hK21 (.ret (.then_ret (.block_ret (.then_ret (.then_ret (.block_ret (.then_ret ?_))))))))
          refine AK.ret1 rfl rfl (fun w hw => ⟨_, _, ?_, rfl, Ret.of (hw.pick [] (by decide) rfl rfl)⟩)
          refine ⟨congrArg (Value.int .i64) ?_, rfl⟩
          first | rfl | skip
          unfold errN
          rw [if_neg hc0', if_neg hc1', if_pos (any_at' (k := k) (by omega) (badE_b (by unfold badB; exact decide_eq_true (by omega))))]
         ·have hg_8_18' := hg_8_18
          try simp only [bs] at hg_8_18'
          refine AK.val _ (Yl.fieldAddr fd51_1 rfl) ⟨_, rfl, congrArg (fun b => some (Value.bool b)) hg_8_18⟩ rfl ?_
          refine AK.val _ (Yl.loadBox on3 rfl bsp rfl) ⟨_, rfl, congrArg (fun b => some (Value.bool b)) hg_8_18⟩ rfl ?_
          refine AK.val _ (Yl.fieldAddr fd25_0 rfl) ⟨_, rfl, congrArg (fun b => some (Value.bool b)) hg_8_18⟩ rfl ?_
          refine AK.val _ (Yl.loadBox on3 rfl bsp rfl) ⟨_, rfl, congrArg (fun b => some (Value.bool b)) hg_8_18⟩ rfl ?_
          refine AK.val _ (Yl.geq rfl rfl) ⟨_, rfl, congrArg (fun b => some (Value.bool b)) hg_8_18⟩ rfl ?_
          refine .v (.pickF rfl (hg_8_18) rfl) ?_
          refine .nt hK19 ?_
          refine AK.condD rfl (fun hc3 => ?_) (fun hc3 => ?_)
          ·refine .sr fun _ hK22 => ?_
           refine .as rfl (.nt hK22 (.ret (.then_ret (.block_ret (.then_ret (.then_ret (.block_ret (.then_ret ?_))))))))
           refine AK.ret1 rfl rfl (fun w hw => ⟨_, _, ?_, rfl, Ret.of (hw.pick [] (by decide) rfl rfl)⟩)
           refine ⟨congrArg (Value.int .i64) ?_, rfl⟩
           first | rfl | skip
           unfold errN
           rw [if_neg hc0', if_neg hc1', if_pos (any_at' (k := k) (by omega) (badE_b (by unfold badB; exact decide_eq_true (by omega))))]
          ·have hbb : badB n k = false := (by unfold badB; exact decide_eq_false (by omega))
           refine .skip ?_
           refine AK.then_ (hK18 _ ?_)
           refine .seq fun _ hK23 => ?_
           refine AK.quiet mixed krf ?_
           refine .mv rfl ?_
           refine .v (.gtr rfl rfl) ?_
           refine .mv rfl ?_
           refine QK.splitB (g := 68) rfl (fun hg_10_2 => ?_) (fun hg_10_2 => ?_)
           ·have hg_10_2' := hg_10_2
            try simp only [bs] at hg_10_2'
            refine QK.val _ (Yl.fieldAddr fd25_4 rfl) ⟨_, rfl, congrArg (fun b => some (Value.bool b)) hg_10_2⟩ rfl ?_
            refine QK.val _ (Yl.loadBox on23 rfl bsp rfl) ⟨_, rfl, congrArg (fun b => some (Value.bool b)) hg_10_2⟩ rfl ?_
            refine QK.val _ (Yl.move rfl) ⟨_, rfl, congrArg (fun b => some (Value.bool b)) hg_10_2⟩ rfl ?_
            refine QK.val _ (Yl.sub rfl rfl (by omega)) ⟨_, rfl, congrArg (fun b => some (Value.bool b)) hg_10_2⟩ rfl ?_
            first | refine QK.val _ (.iN sl23 rfl rfl) ⟨_, rfl, congrArg (fun b => some (Value.bool b)) hg_10_2⟩ rfl ?_ | refine QK.val _ (.iK sl23 rfl rfl) ⟨_, rfl, congrArg (fun b => some (Value.bool b)) hg_10_2⟩ rfl ?_
            refine QK.val (ev (n.es.getD (k - 1) (0, 0, 0))) (Yl.valE (Yl.loadEd (j := k - 1) ag51 (by rw [show k - 1 = ((k : Int) - 1).toNat by omega]; rfl) rdp (by omega)) rfl) ⟨_, rfl, congrArg (fun b => some (Value.bool b)) hg_10_2⟩ rfl ?_
            refine QK.val _ (Yl.loadBoxE ag51 rfl bsp) ⟨_, rfl, congrArg (fun b => some (Value.bool b)) hg_10_2⟩ rfl ?_
            refine QK.val _ (Yl.eqlE eqe51 rfl rfl) ⟨_, rfl, congrArg (fun b => some (Value.bool b)) hg_10_2⟩ rfl ?_
            refine QK.val _ (Yl.move rfl) ⟨_, rfl, congrArg (fun b => some (Value.bool b)) hg_10_2⟩ rfl ?_
            refine QK.splitB (g := 77) rfl (fun hg_10_11 => ?_) (fun hg_10_11 => ?_)
            ·have hg_10_11' := hg_10_11
             try simp only [bs] at hg_10_11'
             refine QK.pass rfl rfl (hg_10_11) rfl ?_
             refine QK.pass rfl rfl (hg_10_11) rfl ?_
             refine QK.pass rfl rfl (hg_10_11) rfl ?_
             refine QK.pass rfl rfl (hg_10_11) rfl ?_
             refine QK.pass rfl rfl (hg_10_11) rfl ?_
             refine QK.pass rfl rfl (hg_10_11) rfl ?_
             refine QK.pass rfl rfl (hg_10_11) rfl ?_
             refine QK.pass rfl rfl (hg_10_11) rfl ?_
             refine QK.pass rfl rfl (hg_10_11) rfl ?_
             refine QK.val _ (Yl.pickT rfl (hg_10_11) rfl) ⟨_, rfl, congrArg (fun b => some (Value.bool b)) hg_10_2⟩ rfl ?_
             refine .v (.pickT rfl (hg_10_2) rfl) ?_
             refine QK.nil (QK.fin ?_)
             refine AK.then_ (hK23 _ ?_)
             refine AK.cond_t rfl (rfl) ?_
             refine .sr fun _ hK24 => ?_
             refine .as rfl (.nt hK24 (.ret (.block_ret (.then_ret (.then_ret (.block_ret (.then_ret ?_)))))))
             refine AK.ret1 rfl rfl (fun w hw => ⟨_, _, ?_, rfl, Ret.of (hw.pick [] (by decide) rfl rfl)⟩)
             refine ⟨congrArg (Value.int .i64) ?_, rfl⟩
             first | rfl | skip
             unfold errN
             rw [if_neg hc0', if_neg hc1', if_pos (any_at' (k := k) (by omega) (badE_o (by omega) (bef_no (by first | exact .inl (by assumption) | exact .inr (by omega)))))]
            ·have hg_10_11' := hg_10_11
             try simp only [bs] at hg_10_11'
             refine QK.val _ (Yl.fieldAddr fd25_4 rfl) ⟨_, rfl, congrArg (fun b => some (Value.bool b)) hg_10_11⟩ rfl ?_
             refine QK.val _ (Yl.loadBox on23 rfl bsp rfl) ⟨_, rfl, congrArg (fun b => some (Value.bool b)) hg_10_11⟩ rfl ?_
             refine QK.val _ (Yl.move rfl) ⟨_, rfl, congrArg (fun b => some (Value.bool b)) hg_10_11⟩ rfl ?_
             refine QK.val _ (Yl.sub rfl rfl (by omega)) ⟨_, rfl, congrArg (fun b => some (Value.bool b)) hg_10_11⟩ rfl ?_
             first | refine QK.val _ (.iN sl23 rfl rfl) ⟨_, rfl, congrArg (fun b => some (Value.bool b)) hg_10_11⟩ rfl ?_ | refine QK.val _ (.iK sl23 rfl rfl) ⟨_, rfl, congrArg (fun b => some (Value.bool b)) hg_10_11⟩ rfl ?_
             refine QK.val (ev (n.es.getD (k - 1) (0, 0, 0))) (Yl.valE (Yl.loadEd (j := k - 1) ag51 (by rw [show k - 1 = ((k : Int) - 1).toNat by omega]; rfl) rdp (by omega)) rfl) ⟨_, rfl, congrArg (fun b => some (Value.bool b)) hg_10_11⟩ rfl ?_
             refine QK.val _ (Yl.loadBoxE ag51 rfl bsp) ⟨_, rfl, congrArg (fun b => some (Value.bool b)) hg_10_11⟩ rfl ?_
             refine QK.call (.int .i64 (cmpE (n.es.getD (k - 1) (0, 0, 0)) (n.es.getD k (0, 0, 0)))) co41 rfl (fun w hw => s_cmpe w (n.es.getD (k - 1) (0, 0, 0)) (n.es.getD k (0, 0, 0))) (fun v o h => h.1) ⟨_, rfl, congrArg (fun b => some (Value.bool b)) hg_10_11⟩ rfl ?_
             refine QK.val _ (Yl.gtr rfl rfl) ⟨_, rfl, congrArg (fun b => some (Value.bool b)) hg_10_11⟩ rfl ?_
             refine QK.val _ (Yl.pickF rfl (hg_10_11) rfl) ⟨_, rfl, congrArg (fun b => some (Value.bool b)) hg_10_2⟩ rfl ?_
             refine .v (.pickT rfl (hg_10_2) rfl) ?_
             refine QK.nil (QK.fin ?_)
             refine AK.then_ (hK23 _ ?_)
             refine AK.condD rfl (fun hc4 => ?_) (fun hc4 => ?_)
             ·refine .sr fun _ hK25 => ?_
              refine .as rfl (.nt hK25 (.ret (.block_ret (.then_ret (.then_ret (.block_ret (.then_ret ?_)))))))
              refine AK.ret1 rfl rfl (fun w hw => ⟨_, _, ?_, rfl, Ret.of (hw.pick [] (by decide) rfl rfl)⟩)
              refine ⟨congrArg (Value.int .i64) ?_, rfl⟩
              first | rfl | skip
              unfold errN
              rw [if_neg hc0', if_neg hc1', if_pos (any_at' (k := k) (by omega) (badE_o (by omega) (bef_no (by first | exact .inl (by assumption) | exact .inr (by omega)))))]
             ·refine .skip (.block_normal ?_)
              refine AK.then_ (hK16 _ ?_)
              refine AK.region ?_
              refine .v (.add rfl rfl (by omega)) ?_
              refine .mv rfl (.nil ?_)
              first | refine AK.then_ (hK13 _ _ (k + 1) ⟨by omega, ext_n hg0.2 (badE_no hbb (fun h => by omega))⟩ (by omega) (slr) (fun w hw => hw.pick [0] (by decide) rfl rfl)) | refine AK.then_ (hK13 _ _ (k + 1) ⟨by omega, ext_n hg0.2 (badE_no hbb (fun _ => bef_iff.2 (fun h => h.elim (by assumption) (fun h => by omega))))⟩ (by omega) (slr) (fun w hw => hw.pick [0] (by decide) rfl rfl))
           ·have hg_10_2' := hg_10_2
            try simp only [bs] at hg_10_2'
            refine QK.pass rfl rfl (hg_10_2) rfl ?_
            refine QK.pass rfl rfl (hg_10_2) rfl ?_
            refine QK.pass rfl rfl (hg_10_2) rfl ?_
            refine QK.pass rfl rfl (hg_10_2) rfl ?_
            refine QK.pass rfl rfl (hg_10_2) rfl ?_
            refine QK.pass rfl rfl (hg_10_2) rfl ?_
            refine QK.pass rfl rfl (hg_10_2) rfl ?_
            refine QK.pass rfl rfl (hg_10_2) rfl ?_
            refine QK.pass rfl rfl (hg_10_2) rfl ?_
            refine QK.pass rfl rfl trivial rfl ?_
            refine QK.pass rfl rfl trivial rfl ?_
            refine QK.pass rfl rfl trivial rfl ?_
            refine QK.pass rfl rfl trivial rfl ?_
            refine QK.pass rfl rfl trivial rfl ?_
            refine QK.pass rfl rfl trivial rfl ?_
            refine QK.pass rfl rfl trivial rfl ?_
            refine QK.pass rfl rfl trivial rfl ?_
            refine QK.pass rfl rfl trivial rfl ?_
            refine QK.pass rfl rfl (hg_10_2) rfl ?_
            refine .v (.pickF rfl (hg_10_2) rfl) ?_
            refine QK.nil (QK.fin ?_)
            refine AK.then_ (hK23 _ ?_)
            refine AK.cond_f rfl (rfl) ?_
            refine .skip (.block_normal ?_)
            refine AK.then_ (hK16 _ ?_)
            refine AK.region ?_
            refine .v (.add rfl rfl (by omega)) ?_
            refine .mv rfl (.nil ?_)
            first | refine AK.then_ (hK13 _ _ (k + 1) ⟨by omega, ext_n hg0.2 (badE_no hbb (fun h => by omega))⟩ (by omega) (slr) (fun w hw => hw.pick [0] (by decide) rfl rfl)) | refine AK.then_ (hK13 _ _ (k + 1) ⟨by omega, ext_n hg0.2 (badE_no hbb (fun _ => bef_iff.2 (fun h => h.elim (by assumption) (fun h => by omega))))⟩ (by omega) (slr) (fun w hw => hw.pick [0] (by decide) rfl rfl))
       ·refine .exit (.then_exit (.then_exit (.block_exit ?_)))
        refine AK.then_ (hK11 _ ?_)
        refine .sr fun _ hK26 => ?_
        refine .as rfl (.nt hK26 (.ret ?_))
        refine AK.ret1 rfl rfl (fun w hw => ⟨_, _, ?_, rfl, Ret.of (hw.pick [] (by decide) rfl rfl)⟩)
        refine ⟨congrArg (Value.int .i64) ?_, rfl⟩
        unfold errN
        rw [if_neg hc0', if_neg hc1', if_neg (no_any (fun j hj => hg0.2 j (by omega)))]

set_option maxHeartbeats 2000000 in
set_option maxRecDepth 100000 in
theorem s_nrefvalidate (w : World) (v : Value) (n : Nfa) (h : RdN (fun _ => False) w v n) : CallS Tryd.prog 6 [v] w (fun r o => r = .int .i64 (errN n) ∧ o = []) := by
 have h0 := h
 obtain ⟨vE, rfl, hE⟩ := h
 have sE := Rd.sl hE
 have hme := Rd.le hE
 refine spec_of Tryd.func6 rfl (Nat.le_of_ble_eq_true rfl) ?_
 refine .sr fun _ hK1 => ?_
 refine AK.box_ (E := 25) (cs := [.int .i64 n.L, .int .i64 n.S, uv n.st, uv n.fi, vE]) rfl rfl rfl trivial rfl (fun bx1 => ?_)
 refine .as rfl (.nt hK1 ?_)
 refine .seq fun _ hK2 => ?_
 refine .sr fun _ hK3 => ?_
 refine .v (.fieldAddr fd25_0 rfl) ?_
 refine .v (.loadBox on3 rfl bsp rfl) ?_
 refine AK.call co18 rfl (fun w hw => s_may w n.L) trivial rfl ?_
 rintro r o ⟨rfl, rfl⟩
 refine .v (.not rfl) ?_
 refine .mv rfl ?_
 refine AK.splitB (g := 10) rfl (fun hg_1_4 => ?_) (fun hg_1_4 => ?_)
 ·have hg_1_4' := hg_1_4
  try simp only [bs] at hg_1_4'
  refine AK.pass rfl rfl (hg_1_4) rfl ?_
  refine AK.pass rfl rfl (hg_1_4) rfl ?_
  refine AK.pass rfl rfl (hg_1_4) rfl ?_
  refine .v (.pickT rfl (hg_1_4) rfl) ?_
  refine .mv rfl ?_
  refine AK.pass rfl rfl rfl rfl ?_
  refine AK.pass rfl rfl rfl rfl ?_
  refine AK.pass rfl rfl rfl rfl ?_
  refine .v (.pickT rfl (rfl) rfl) ?_
  refine .nt hK3 ?_
  refine AK.cond_t rfl (rfl) ?_
  refine .sr fun _ hK4 => ?_
  refine .as rfl (.nt hK4 (.ret (.then_ret ?_)))
  refine AK.ret1 rfl rfl (fun w hw => ⟨_, _, ?_, rfl, Ret.of (hw.pick [] (by decide) rfl rfl)⟩)
  refine ⟨congrArg (Value.int .i64) ?_, rfl⟩
  unfold errN
  rw [if_pos (by first | omega | (left; simpa using hg_1_4))]
 ·have hg_1_4' := hg_1_4
  try simp only [bs] at hg_1_4'
  refine AK.val _ (Yl.fieldAddr fd25_1 rfl) ⟨_, rfl, congrArg (fun b => some (Value.bool b)) hg_1_4⟩ rfl ?_
  refine AK.val _ (Yl.loadBox on3 rfl bsp rfl) ⟨_, rfl, congrArg (fun b => some (Value.bool b)) hg_1_4⟩ rfl ?_
  refine AK.val _ (Yl.lss rfl rfl) ⟨_, rfl, congrArg (fun b => some (Value.bool b)) hg_1_4⟩ rfl ?_
  refine .v (.pickF rfl (hg_1_4) rfl) ?_
  refine .mv rfl ?_
  refine AK.splitB (g := 15) rfl (fun hg_1_9 => ?_) (fun hg_1_9 => ?_)
  ·have hg_1_9' := hg_1_9
   try simp only [bs] at hg_1_9'
   refine AK.pass rfl rfl (hg_1_9) rfl ?_
   refine AK.pass rfl rfl (hg_1_9) rfl ?_
   refine AK.pass rfl rfl (hg_1_9) rfl ?_
   refine .v (.pickT rfl (hg_1_9) rfl) ?_
   refine .nt hK3 ?_
   refine AK.cond_t rfl (rfl) ?_
   refine .sr fun _ hK5 => ?_
   refine .as rfl (.nt hK5 (.ret (.then_ret ?_)))
   refine AK.ret1 rfl rfl (fun w hw => ⟨_, _, ?_, rfl, Ret.of (hw.pick [] (by decide) rfl rfl)⟩)
   refine ⟨congrArg (Value.int .i64) ?_, rfl⟩
   unfold errN
   rw [if_pos (by first | omega | (left; simpa using hg_1_4))]
  ·have hg_1_9' := hg_1_9
   try simp only [bs] at hg_1_9'
   refine AK.val _ (Yl.fieldAddr fd25_1 rfl) ⟨_, rfl, congrArg (fun b => some (Value.bool b)) hg_1_9⟩ rfl ?_
   refine AK.val _ (Yl.loadBox on3 rfl bsp rfl) ⟨_, rfl, congrArg (fun b => some (Value.bool b)) hg_1_9⟩ rfl ?_
   refine AK.val _ (Yl.gtr rfl rfl) ⟨_, rfl, congrArg (fun b => some (Value.bool b)) hg_1_9⟩ rfl ?_
   refine .v (.pickF rfl (hg_1_9) rfl) ?_
   refine .nt hK3 ?_
   refine AK.condD rfl (fun hc0 => ?_) (fun hc0 => ?_)
   ·refine .sr fun _ hK6 => ?_
    refine .as rfl (.nt hK6 (.ret (.then_ret ?_)))
    refine AK.ret1 rfl rfl (fun w hw => ⟨_, _, ?_, rfl, Ret.of (hw.pick [] (by decide) rfl rfl)⟩)
    refine ⟨congrArg (Value.int .i64) ?_, rfl⟩
    unfold errN
    rw [if_pos (by first | omega | (left; simpa using hg_1_4))]
   ·have hc0' : ¬ (¬ (1 ≤ n.L ∧ n.L ≤ 6) ∨ n.S < 0 ∨ n.S > 64) := (by have h1 : 1 ≤ n.L ∧ n.L ≤ 6 := (by simpa using hg_1_4); omega)
    refine .skip ?_
    refine AK.then_ (hK2 _ ?_)
    refine .sr fun _ hK7 => ?_
    refine .v (.fieldAddr fd25_1 rfl) ?_
    refine .v (.loadBox on3 rfl bsp rfl) ?_
    refine AK.call co19 rfl (fun w hw => s_below w n.S (by omega)) trivial rfl ?_
    rintro r o ⟨rfl, rfl⟩
    refine .as rfl (.nt hK7 ?_)
    refine .seq fun _ hK8 => ?_
    refine .sr fun _ hK9 => ?_
    refine .v (.fieldAddr fd25_2 rfl) ?_
    refine .v (.loadBox on22 rfl bsp rfl) ?_
    refine .mv rfl ?_
    refine .v (.orU rfl rfl) ?_
    refine .mv rfl ?_
    refine .v (.neqU rfl rfl) ?_
    refine .mv rfl ?_
    refine AK.splitB (g := 29) rfl (fun hg_4_6 => ?_) (fun hg_4_6 => ?_)
    ·have hg_4_6' := hg_4_6
     try simp only [bs] at hg_4_6'
     refine AK.pass rfl rfl (hg_4_6) rfl ?_
     refine AK.pass rfl rfl (hg_4_6) rfl ?_
     refine AK.pass rfl rfl (hg_4_6) rfl ?_
     refine AK.pass rfl rfl (hg_4_6) rfl ?_
     refine AK.pass rfl rfl (hg_4_6) rfl ?_
     refine AK.pass rfl rfl (hg_4_6) rfl ?_
     refine .v (.pickT rfl (hg_4_6) rfl) ?_
     refine .nt hK9 ?_
     refine AK.cond_t rfl (rfl) ?_
     refine .sr fun _ hK10 => ?_
     refine .as rfl (.nt hK10 (.ret (.then_ret ?_)))
     refine AK.ret1 rfl rfl (fun w hw => ⟨_, _, ?_, rfl, Ret.of (hw.pick [] (by decide) rfl rfl)⟩)
     refine ⟨congrArg (Value.int .i64) ?_, rfl⟩
     unfold errN
     rw [if_neg hc0', if_pos (fun h => by have h2 := and_or0.1 h; first | exact of_decide_eq_true hg_4_6 (or_below.2 h2.1) | exact hc1 (or_below.2 h2.2))]
    ·have hg_4_6' := hg_4_6
     try simp only [bs] at hg_4_6'
     refine AK.val _ (Yl.fieldAddr fd25_3 rfl) ⟨_, rfl, congrArg (fun b => some (Value.bool b)) hg_4_6⟩ rfl ?_
     refine AK.val _ (Yl.loadBox on22 rfl bsp rfl) ⟨_, rfl, congrArg (fun b => some (Value.bool b)) hg_4_6⟩ rfl ?_
     refine AK.val _ (Yl.move rfl) ⟨_, rfl, congrArg (fun b => some (Value.bool b)) hg_4_6⟩ rfl ?_
     refine AK.val _ (Yl.orU rfl rfl) ⟨_, rfl, congrArg (fun b => some (Value.bool b)) hg_4_6⟩ rfl ?_
     refine AK.val _ (Yl.move rfl) ⟨_, rfl, congrArg (fun b => some (Value.bool b)) hg_4_6⟩ rfl ?_
     refine AK.val _ (Yl.neqU rfl rfl) ⟨_, rfl, congrArg (fun b => some (Value.bool b)) hg_4_6⟩ rfl ?_
     refine .v (.pickF rfl (hg_4_6) rfl) ?_
     refine .nt hK9 ?_
     refine AK.condNe rfl (fun hc1 => ?_) (fun hc1 => ?_)
     ·refine .sr fun _ hK11 => ?_
      refine .as rfl (.nt hK11 (.ret (.then_ret ?_)))
      refine AK.ret1 rfl rfl (fun w hw => ⟨_, _, ?_, rfl, Ret.of (hw.pick [] (by decide) rfl rfl)⟩)
      refine ⟨congrArg (Value.int .i64) ?_, rfl⟩
      unfold errN
      rw [if_neg hc0', if_pos (fun h => by have h2 := and_or0.1 h; first | exact of_decide_eq_true hg_4_6 (or_below.2 h2.1) | exact hc1 (or_below.2 h2.2))]
     ·have hc1' : ¬ ((n.st ||| n.fi) &&& ~~~(below n.S) ≠ 0) := not_not_intro (and_or0.2 ⟨or_below.1 (Decidable.not_not.1 (of_decide_eq_false hg_4_6)), or_below.1 hc1⟩)
      refine .skip ?_
      refine AK.then_ (hK8 _ ?_)
      refine .seq fun _ hK12 => ?_
      refine .sr fun _ hK13 => ?_
      refine .v (.fieldAddr fd25_4 rfl) ?_
      refine .v (.loadBox on23 rfl bsp rfl) ?_
      refine .v (.lenR sl23 rfl rdp) ?_
      refine .mv rfl (.nt hK13 (.block ?_))
      refine AK.loopK (X := Nat) [(1, _), (38, _), (39, _)] (fun k => [(40, .int .i64 (k : Int))]) (fun k => [box bx1 25 5 [.int .i64 n.L, .int .i64 n.S, uv n.st, uv n.fi, vE]]) (fun k => k ≤ n.es.length ∧ ∀ j, j < k → badE n j = false) (fun k => n.es.length - k) (0) slr ?_ ?_ ?_ ?_
      ·exact ⟨Nat.zero_le _, fun j hj => by omega⟩
      ·exact slr
      ·exact fun w hw => hw
      ·intro k hg0 _ hK14
       refine .sr fun _ hK15 => ?_
       refine .v (.lss rfl rfl) ?_
       refine .nt hK15 ?_
       refine .seq fun _ hK16 => ?_
       refine AK.condD rfl (fun hc2 => ?_) (fun hc2 => ?_)
       ·refine .skip ?_
        refine AK.then_ (hK16 _ ?_)
        refine .seq fun _ hK17 => ?_
        refine .block ?_
        refine .sr fun _ hK18 => ?_
        refine .mv rfl ?_
        first | refine .v (.iN sl23 rfl rfl) ?_ | refine .v (.iK sl23 rfl rfl) ?_
        refine .v (.loadEd ag51 rfl rdp (by omega)) ?_
        refine AK.alloc el51 rfl rfl trivial rfl (fun bx5 => ?_)
        refine .as rfl ?_
        refine AK.storeBox 1 (us := ecs (n.es.getD k (0, 0, 0))) (cs' := ecs (n.es.getD k (0, 0, 0))) rfl sz51 rfl rfl rfl rfl (ecs_one _) (Nat.le_of_ble_eq_true rfl) rfl trivial ?_
        refine .nt hK18 ?_
        refine .seq fun _ hK19 => ?_
        refine AK.quiet mixed krf ?_
        refine .v (.fieldAddr fd51_0 rfl) ?_
        refine .v (.loadBox on3 rfl bsp rfl) ?_
        refine .v (.lss rfl rfl) ?_
        refine .mv rfl ?_
        refine QK.splitB (g := 48) rfl (fun hg_9_3 => ?_) (fun hg_9_3 => ?_)
        ·have hg_9_3' := hg_9_3
         try simp only [bs] at hg_9_3'
         refine QK.pass rfl rfl (hg_9_3) rfl ?_
         refine QK.pass rfl rfl (hg_9_3) rfl ?_
         refine QK.pass rfl rfl (hg_9_3) rfl ?_
         refine QK.pass rfl rfl (hg_9_3) rfl ?_
         refine QK.pass rfl rfl (hg_9_3) rfl ?_
         refine .v (.pickT rfl (hg_9_3) rfl) ?_
         refine .mv rfl ?_
         refine QK.pass rfl rfl rfl rfl ?_
         refine QK.pass rfl rfl rfl rfl ?_
         refine QK.pass rfl rfl rfl rfl ?_
         refine .v (.pickT rfl (rfl) rfl) ?_
         refine .mv rfl ?_
         refine QK.pass rfl rfl rfl rfl ?_
         refine QK.pass rfl rfl rfl rfl ?_
         refine QK.pass rfl rfl rfl rfl ?_
         refine QK.pass rfl rfl rfl rfl ?_
         refine QK.pass rfl rfl rfl rfl ?_
         refine .v (.pickT rfl (rfl) rfl) ?_
         refine .mv rfl ?_
         refine QK.pass rfl rfl rfl rfl ?_
         refine QK.pass rfl rfl rfl rfl ?_
         refine QK.pass rfl rfl rfl rfl ?_
         refine .v (.pickT rfl (rfl) rfl) ?_
         refine .mv rfl ?_
         refine QK.pass rfl rfl rfl rfl ?_
         refine QK.pass rfl rfl rfl rfl ?_
         refine QK.pass rfl rfl rfl rfl ?_
         refine QK.pass rfl rfl rfl rfl ?_
         refine QK.pass rfl rfl rfl rfl ?_
         refine .v (.pickT rfl (rfl) rfl) ?_
         refine .mv rfl ?_
         refine QK.pass rfl rfl rfl rfl ?_
         refine QK.pass rfl rfl rfl rfl ?_
         refine QK.pass rfl rfl rfl rfl ?_
         refine QK.pass rfl rfl trivial rfl ?_
         refine QK.pass rfl rfl trivial rfl ?_
         refine QK.pass rfl rfl trivial rfl ?_
         refine QK.pass rfl rfl trivial rfl ?_
         refine QK.pass rfl rfl trivial rfl ?_
         refine QK.pass rfl rfl trivial rfl ?_
         refine QK.pass rfl rfl trivial rfl ?_
         refine QK.pass rfl rfl trivial rfl ?_
         refine QK.pass rfl rfl trivial rfl ?_
         refine QK.pass rfl rfl rfl rfl ?_
         refine .v (.pickT rfl (rfl) rfl) ?_
         refine QK.nil (QK.fin ?_)
         refine AK.then_ (hK19 _ ?_)
         refine AK.cond_t rfl (rfl) ?_
         refine .sr fun _ hK20 => ?_
         refine .as rfl (.nt hK20 (.ret (.block_ret (.then_ret (.then_ret (.block_ret (.then_ret ?_)))))))
         refine AK.ret1 rfl rfl (fun w hw => ⟨_, _, ?_, rfl, Ret.of (hw.pick [] (by decide) rfl rfl)⟩)
         refine ⟨congrArg (Value.int .i64) ?_, rfl⟩
         first | rfl | skip
         unfold errN
         rw [if_neg hc0', if_neg hc1', if_pos (any_at' (k := k) (by omega) (by first | exact badE_b (by unfold badB; exact decide_eq_true (by omega)) | exact badE_o (by omega) (by assumption)))]
        ·have hg_9_3' := hg_9_3
         try simp only [bs] at hg_9_3'
         refine QK.val _ (Yl.fieldAddr fd51_0 rfl) ⟨_, rfl, congrArg (fun b => some (Value.bool b)) hg_9_3⟩ rfl ?_
         refine QK.val _ (Yl.loadBox on3 rfl bsp rfl) ⟨_, rfl, congrArg (fun b => some (Value.bool b)) hg_9_3⟩ rfl ?_
         refine QK.val _ (Yl.fieldAddr fd25_1 rfl) ⟨_, rfl, congrArg (fun b => some (Value.bool b)) hg_9_3⟩ rfl ?_
         refine QK.val _ (Yl.loadBox on3 rfl bsp rfl) ⟨_, rfl, congrArg (fun b => some (Value.bool b)) hg_9_3⟩ rfl ?_
         refine QK.val _ (Yl.geq rfl rfl) ⟨_, rfl, congrArg (fun b => some (Value.bool b)) hg_9_3⟩ rfl ?_
         refine .v (.pickF rfl (hg_9_3) rfl) ?_
         refine .mv rfl ?_
         refine QK.splitB (g := 55) rfl (fun hg_9_10 => ?_) (fun hg_9_10 => ?_)
         ·have hg_9_10' := hg_9_10
          try simp only [bs] at hg_9_10'
          refine QK.pass rfl rfl (hg_9_10) rfl ?_
          refine QK.pass rfl rfl (hg_9_10) rfl ?_
          refine QK.pass rfl rfl (hg_9_10) rfl ?_
          refine .v (.pickT rfl (hg_9_10) rfl) ?_
          refine .mv rfl ?_
          refine QK.pass rfl rfl rfl rfl ?_
          refine QK.pass rfl rfl rfl rfl ?_
          refine QK.pass rfl rfl rfl rfl ?_
          refine QK.pass rfl rfl rfl rfl ?_
          refine QK.pass rfl rfl rfl rfl ?_
          refine .v (.pickT rfl (rfl) rfl) ?_
          refine .mv rfl ?_
          refine QK.pass rfl rfl rfl rfl ?_
          refine QK.pass rfl rfl rfl rfl ?_
          refine QK.pass rfl rfl rfl rfl ?_
          refine .v (.pickT rfl (rfl) rfl) ?_
          refine .mv rfl ?_
          refine QK.pass rfl rfl rfl rfl ?_
          refine QK.pass rfl rfl rfl rfl ?_
          refine QK.pass rfl rfl rfl rfl ?_
          refine QK.pass rfl rfl rfl rfl ?_
          refine QK.pass rfl rfl rfl rfl ?_
          refine .v (.pickT rfl (rfl) rfl) ?_
          refine .mv rfl ?_
          refine QK.pass rfl rfl rfl rfl ?_
          refine QK.pass rfl rfl rfl rfl ?_
          refine QK.pass rfl rfl rfl rfl ?_
          refine QK.pass rfl rfl trivial rfl ?_
          refine QK.pass rfl rfl trivial rfl ?_
          refine QK.pass rfl rfl trivial rfl ?_
          refine QK.pass rfl rfl trivial rfl ?_
          refine QK.pass rfl rfl trivial rfl ?_
          refine QK.pass rfl rfl trivial rfl ?_
          refine QK.pass rfl rfl trivial rfl ?_
          refine QK.pass rfl rfl trivial rfl ?_
          refine QK.pass rfl rfl trivial rfl ?_
          refine QK.pass rfl rfl rfl rfl ?_
          refine .v (.pickT rfl (rfl) rfl) ?_
          refine QK.nil (QK.fin ?_)
          refine AK.then_ (hK19 _ ?_)
          refine AK.cond_t rfl (rfl) ?_
          refine .sr fun _ hK21 => ?_
          refine .as rfl (.nt hK21 (.ret (.block_ret (.then_ret (.then_ret (.block_ret (.then_ret ?_)))))))
          refine AK.ret1 rfl rfl (fun w hw => ⟨_, _, ?_, rfl, Ret.of (hw.pick [] (by decide) rfl rfl)⟩)
          refine ⟨congrArg (Value.int .i64) ?_, rfl⟩
          first | rfl | skip
          unfold errN
          rw [if_neg hc0', if_neg hc1', if_pos (any_at' (k := k) (by omega) (by first | exact badE_b (by unfold badB; exact decide_eq_true (by omega)) | exact badE_o (by omega) (by assumption)))]
         ·have hg_9_10' := hg_9_10
          try simp only [bs] at hg_9_10'
          refine QK.val _ (Yl.fieldAddr fd51_2 rfl) ⟨_, rfl, congrArg (fun b => some (Value.bool b)) hg_9_10⟩ rfl ?_
          refine QK.val _ (Yl.loadBox on3 rfl bsp rfl) ⟨_, rfl, congrArg (fun b => some (Value.bool b)) hg_9_10⟩ rfl ?_
          refine QK.val _ (Yl.lss rfl rfl) ⟨_, rfl, congrArg (fun b => some (Value.bool b)) hg_9_10⟩ rfl ?_
          refine .v (.pickF rfl (hg_9_10) rfl) ?_
          refine .mv rfl ?_
          refine QK.splitB (g := 60) rfl (fun hg_9_15 => ?_) (fun hg_9_15 => ?_)
          ·have hg_9_15' := hg_9_15
           try simp only [bs] at hg_9_15'
           refine QK.pass rfl rfl (hg_9_15) rfl ?_
           refine QK.pass rfl rfl (hg_9_15) rfl ?_
           refine QK.pass rfl rfl (hg_9_15) rfl ?_
           refine QK.pass rfl rfl (hg_9_15) rfl ?_
           refine QK.pass rfl rfl (hg_9_15) rfl ?_
           refine .v (.pickT rfl (hg_9_15) rfl) ?_
           refine .mv rfl ?_
           refine QK.pass rfl rfl rfl rfl ?_
           refine QK.pass rfl rfl rfl rfl ?_
           refine QK.pass rfl rfl rfl rfl ?_
           refine .v (.pickT rfl (rfl) rfl) ?_
           refine .mv rfl ?_
           refine QK.pass rfl rfl rfl rfl ?_
           refine QK.pass rfl rfl rfl rfl ?_
           refine QK.pass rfl rfl rfl rfl ?_
           refine QK.pass rfl rfl rfl rfl ?_
           refine QK.pass rfl rfl rfl rfl ?_
           refine .v (.pickT rfl (rfl) rfl) ?_
           refine .mv rfl ?_
           refine QK.pass rfl rfl rfl rfl ?_
           refine QK.pass rfl rfl rfl rfl ?_
           refine QK.pass rfl rfl rfl rfl ?_
           refine QK.pass rfl rfl trivial rfl ?_
           refine QK.pass rfl rfl trivial rfl ?_
           refine QK.pass rfl rfl trivial rfl ?_
           refine QK.pass rfl rfl trivial rfl ?_
           refine QK.pass rfl rfl trivial rfl ?_
           refine QK.pass rfl rfl trivial rfl ?_
           refine QK.pass rfl rfl trivial rfl ?_
           refine QK.pass rfl rfl trivial rfl ?_
           refine QK.pass rfl rfl trivial rfl ?_
           refine QK.pass rfl rfl rfl rfl ?_
           refine .v (.pickT rfl (rfl) rfl) ?_
           refine QK.nil (QK.fin ?_)
           refine AK.then_ (hK19 _ ?_)
           refine AK.cond_t rfl (rfl) ?_
           refine .sr fun _ hK22 => ?_
           refine .as rfl (.nt hK22 (.ret (.block_ret (.then_ret (.then_ret (.block_ret (.then_ret ?_)))))))
           refine AK.ret1 rfl rfl (fun w hw => ⟨_, _, ?_, rfl, Ret.of (hw.pick [] (by decide) rfl rfl)⟩)
           refine ⟨congrArg (Value.int .i64) ?_, rfl⟩
           first | rfl | skip
           unfold errN
           rw [if_neg hc0', if_neg hc1', if_pos (any_at' (k := k) (by omega) (by first | exact badE_b (by unfold badB; exact decide_eq_true (by omega)) | exact badE_o (by omega) (by assumption)))]
          ·have hg_9_15' := hg_9_15
           try simp only [bs] at hg_9_15'
           refine QK.val _ (Yl.fieldAddr fd51_2 rfl) ⟨_, rfl, congrArg (fun b => some (Value.bool b)) hg_9_15⟩ rfl ?_
           refine QK.val _ (Yl.loadBox on3 rfl bsp rfl) ⟨_, rfl, congrArg (fun b => some (Value.bool b)) hg_9_15⟩ rfl ?_
           refine QK.val _ (Yl.fieldAddr fd25_1 rfl) ⟨_, rfl, congrArg (fun b => some (Value.bool b)) hg_9_15⟩ rfl ?_
           refine QK.val _ (Yl.loadBox on3 rfl bsp rfl) ⟨_, rfl, congrArg (fun b => some (Value.bool b)) hg_9_15⟩ rfl ?_
           refine QK.val _ (Yl.geq rfl rfl) ⟨_, rfl, congrArg (fun b => some (Value.bool b)) hg_9_15⟩ rfl ?_
           refine .v (.pickF rfl (hg_9_15) rfl) ?_
           refine .mv rfl ?_
           refine QK.splitB (g := 67) rfl (fun hg_9_22 => ?_) (fun hg_9_22 => ?_)
           ·have hg_9_22' := hg_9_22
            try simp only [bs] at hg_9_22'
            refine QK.pass rfl rfl (hg_9_22) rfl ?_
            refine QK.pass rfl rfl (hg_9_22) rfl ?_
            refine QK.pass rfl rfl (hg_9_22) rfl ?_
            refine .v (.pickT rfl (hg_9_22) rfl) ?_
            refine .mv rfl ?_
            refine QK.pass rfl rfl rfl rfl ?_
            refine QK.pass rfl rfl rfl rfl ?_
            refine QK.pass rfl rfl rfl rfl ?_
            refine QK.pass rfl rfl rfl rfl ?_
            refine QK.pass rfl rfl rfl rfl ?_
            refine .v (.pickT rfl (rfl) rfl) ?_
            refine .mv rfl ?_
            refine QK.pass rfl rfl rfl rfl ?_
            refine QK.pass rfl rfl rfl rfl ?_
            refine QK.pass rfl rfl rfl rfl ?_
            refine QK.pass rfl rfl trivial rfl ?_
            refine QK.pass rfl rfl trivial rfl ?_
            refine QK.pass rfl rfl trivial rfl ?_
            refine QK.pass rfl rfl trivial rfl ?_
            refine QK.pass rfl rfl trivial rfl ?_
            refine QK.pass rfl rfl trivial rfl ?_
            refine QK.pass rfl rfl trivial rfl ?_
            refine QK.pass rfl rfl trivial rfl ?_
            refine QK.pass rfl rfl trivial rfl ?_
            refine QK.pass rfl rfl rfl rfl ?_
            refine .v (.pickT rfl (rfl) rfl) ?_
            refine QK.nil (QK.fin ?_)
            refine AK.then_ (hK19 _ ?_)
            refine AK.cond_t rfl (rfl) ?_
            refine .sr fun _ hK23 => ?_
            refine .as rfl (.nt hK23 (.ret (.block_ret (.then_ret (.then_ret (.block_ret (.then_ret ?_)))))))
            refine AK.ret1 rfl rfl (fun w hw => ⟨_, _, ?_, rfl, Ret.of (hw.pick [] (by decide) rfl rfl)⟩)
            refine ⟨congrArg (Value.int .i64) ?_, rfl⟩
            first | rfl | skip
            unfold errN
            rw [if_neg hc0', if_neg hc1', if_pos (any_at' (k := k) (by omega) (by first | exact badE_b (by unfold badB; exact decide_eq_true (by omega)) | exact badE_o (by omega) (by assumption)))]
           ·have hg_9_22' := hg_9_22
            try simp only [bs] at hg_9_22'
            refine QK.val _ (Yl.fieldAddr fd51_1 rfl) ⟨_, rfl, congrArg (fun b => some (Value.bool b)) hg_9_22⟩ rfl ?_
            refine QK.val _ (Yl.loadBox on3 rfl bsp rfl) ⟨_, rfl, congrArg (fun b => some (Value.bool b)) hg_9_22⟩ rfl ?_
            refine QK.val _ (Yl.lss rfl rfl) ⟨_, rfl, congrArg (fun b => some (Value.bool b)) hg_9_22⟩ rfl ?_
            refine .v (.pickF rfl (hg_9_22) rfl) ?_
            refine .mv rfl ?_
            refine QK.splitB (g := 72) rfl (fun hg_9_27 => ?_) (fun hg_9_27 => ?_)
            ·have hg_9_27' := hg_9_27
             try simp only [bs] at hg_9_27'
             refine QK.pass rfl rfl (hg_9_27) rfl ?_
             refine QK.pass rfl rfl (hg_9_27) rfl ?_
             refine QK.pass rfl rfl (hg_9_27) rfl ?_
             refine QK.pass rfl rfl (hg_9_27) rfl ?_
             refine QK.pass rfl rfl (hg_9_27) rfl ?_
             refine .v (.pickT rfl (hg_9_27) rfl) ?_
             refine .mv rfl ?_
             refine QK.pass rfl rfl rfl rfl ?_
             refine QK.pass rfl rfl rfl rfl ?_
             refine QK.pass rfl rfl rfl rfl ?_
             refine QK.pass rfl rfl trivial rfl ?_
             refine QK.pass rfl rfl trivial rfl ?_
             refine QK.pass rfl rfl trivial rfl ?_
             refine QK.pass rfl rfl trivial rfl ?_
             refine QK.pass rfl rfl trivial rfl ?_
             refine QK.pass rfl rfl trivial rfl ?_
             refine QK.pass rfl rfl trivial rfl ?_
             refine QK.pass rfl rfl trivial rfl ?_
             refine QK.pass rfl rfl trivial rfl ?_
             refine QK.pass rfl rfl rfl rfl ?_
             refine .v (.pickT rfl (rfl) rfl) ?_
             refine QK.nil (QK.fin ?_)
             refine AK.then_ (hK19 _ ?_)
             refine AK.cond_t rfl (rfl) ?_
             refine .sr fun _ hK24 => ?_
             refine .as rfl (.nt hK24 (.ret (.block_ret (.then_ret (.then_ret (.block_ret (.then_ret ?_)))))))
             refine AK.ret1 rfl rfl (fun w hw => ⟨_, _, ?_, rfl, Ret.of (hw.pick [] (by decide) rfl rfl)⟩)
             refine ⟨congrArg (Value.int .i64) ?_, rfl⟩
             first | rfl | skip
             unfold errN
             rw [if_neg hc0', if_neg hc1', if_pos (any_at' (k := k) (by omega) (by first | exact badE_b (by unfold badB; exact decide_eq_true (by omega)) | exact badE_o (by omega) (by assumption)))]
            ·have hg_9_27' := hg_9_27
             try simp only [bs] at hg_9_27'
             refine QK.val _ (Yl.fieldAddr fd51_1 rfl) ⟨_, rfl, congrArg (fun b => some (Value.bool b)) hg_9_27⟩ rfl ?_
             refine QK.val _ (Yl.loadBox on3 rfl bsp rfl) ⟨_, rfl, congrArg (fun b => some (Value.bool b)) hg_9_27⟩ rfl ?_
             refine QK.val _ (Yl.fieldAddr fd25_0 rfl) ⟨_, rfl, congrArg (fun b => some (Value.bool b)) hg_9_27⟩ rfl ?_
             refine QK.val _ (Yl.loadBox on3 rfl bsp rfl) ⟨_, rfl, congrArg (fun b => some (Value.bool b)) hg_9_27⟩ rfl ?_
             refine QK.val _ (Yl.geq rfl rfl) ⟨_, rfl, congrArg (fun b => some (Value.bool b)) hg_9_27⟩ rfl ?_
             refine .v (.pickF rfl (hg_9_27) rfl) ?_
             refine .mv rfl ?_
             refine QK.splitB (g := 79) rfl (fun hg_9_34 => ?_) (fun hg_9_34 => ?_)
             ·have hg_9_34' := hg_9_34
              try simp only [bs] at hg_9_34'
              refine QK.pass rfl rfl (hg_9_34) rfl ?_
              refine QK.pass rfl rfl (hg_9_34) rfl ?_
              refine QK.pass rfl rfl (hg_9_34) rfl ?_
              refine QK.pass rfl rfl trivial rfl ?_
              refine QK.pass rfl rfl trivial rfl ?_
              refine QK.pass rfl rfl trivial rfl ?_
              refine QK.pass rfl rfl trivial rfl ?_
              refine QK.pass rfl rfl trivial rfl ?_
              refine QK.pass rfl rfl trivial rfl ?_
              refine QK.pass rfl rfl trivial rfl ?_
              refine QK.pass rfl rfl trivial rfl ?_
              refine QK.pass rfl rfl trivial rfl ?_
              refine QK.pass rfl rfl (hg_9_34) rfl ?_
              refine .v (.pickT rfl (hg_9_34) rfl) ?_
              refine QK.nil (QK.fin ?_)
              refine AK.then_ (hK19 _ ?_)
              refine AK.cond_t rfl (rfl) ?_
              refine .sr fun _ hK25 => ?_
              refine .as rfl (.nt hK25 (.ret (.block_ret (.then_ret (.then_ret (.block_ret (.then_ret ?_)))))))
              refine AK.ret1 rfl rfl (fun w hw => ⟨_, _, ?_, rfl, Ret.of (hw.pick [] (by decide) rfl rfl)⟩)
              refine ⟨congrArg (Value.int .i64) ?_, rfl⟩
              first | rfl | skip
              unfold errN
              rw [if_neg hc0', if_neg hc1', if_pos (any_at' (k := k) (by omega) (by first | exact badE_b (by unfold badB; exact decide_eq_true (by omega)) | exact badE_o (by omega) (by assumption)))]
             ·have hg_9_34' := hg_9_34
              try simp only [bs] at hg_9_34'
              refine QK.val _ (Yl.move rfl) ⟨_, rfl, congrArg (fun b => some (Value.bool b)) hg_9_34⟩ rfl ?_
              refine QK.val _ (Yl.gtr rfl rfl) ⟨_, rfl, congrArg (fun b => some (Value.bool b)) hg_9_34⟩ rfl ?_
              refine QK.val _ (Yl.move rfl) ⟨_, rfl, congrArg (fun b => some (Value.bool b)) hg_9_34⟩ rfl ?_
              refine QK.splitB (g := 82) rfl (fun hg_9_37 => ?_) (fun hg_9_37 => ?_)
              ·have hg_9_37' := hg_9_37
               try simp only [bs] at hg_9_37'
               refine QK.val _ (Yl.fieldAddr fd25_4 rfl) ⟨_, rfl, congrArg (fun b => some (Value.bool b)) hg_9_37⟩ rfl ?_
               refine QK.val _ (Yl.loadBox on23 rfl bsp rfl) ⟨_, rfl, congrArg (fun b => some (Value.bool b)) hg_9_37⟩ rfl ?_
               refine QK.val _ (Yl.move rfl) ⟨_, rfl, congrArg (fun b => some (Value.bool b)) hg_9_37⟩ rfl ?_
               refine QK.val _ (Yl.sub rfl rfl (by omega)) ⟨_, rfl, congrArg (fun b => some (Value.bool b)) hg_9_37⟩ rfl ?_
               first | refine QK.val _ (.iN sl23 rfl rfl) ⟨_, rfl, congrArg (fun b => some (Value.bool b)) hg_9_37⟩ rfl ?_ | refine QK.val _ (.iK sl23 rfl rfl) ⟨_, rfl, congrArg (fun b => some (Value.bool b)) hg_9_37⟩ rfl ?_
               refine QK.val (ev (n.es.getD (k - 1) (0, 0, 0))) (Yl.valE (Yl.loadEd (j := k - 1) ag51 (by rw [show k - 1 = ((k : Int) - 1).toNat by omega]; rfl) rdp (by omega)) rfl) ⟨_, rfl, congrArg (fun b => some (Value.bool b)) hg_9_37⟩ rfl ?_
               refine QK.val _ (Yl.loadBoxE ag51 rfl bsp) ⟨_, rfl, congrArg (fun b => some (Value.bool b)) hg_9_37⟩ rfl ?_
               refine QK.call (.bool (bef (n.es.getD (k - 1) (0, 0, 0)) (n.es.getD k (0, 0, 0)))) co20 rfl (fun w hw => s_before w (n.es.getD (k - 1) (0, 0, 0)) (n.es.getD k (0, 0, 0))) (fun v o h => h.1) ⟨_, rfl, congrArg (fun b => some (Value.bool b)) hg_9_37⟩ rfl ?_
               refine QK.val _ (Yl.not rfl) ⟨_, rfl, congrArg (fun b => some (Value.bool b)) hg_9_37⟩ rfl ?_
               refine QK.val _ (Yl.pickT rfl (hg_9_37) rfl) ⟨_, rfl, congrArg (fun b => some (Value.bool b)) hg_9_34⟩ rfl ?_
               refine .v (.pickF rfl (hg_9_34) rfl) ?_
               refine QK.nil (QK.fin ?_)
               refine AK.then_ (hK19 _ ?_)
               refine AK.condB rfl (fun hc3 => ?_) (fun hc3 => ?_)
               ·refine .sr fun _ hK26 => ?_
                refine .as rfl (.nt hK26 (.ret (.block_ret (.then_ret (.then_ret (.block_ret (.then_ret ?_)))))))
                refine AK.ret1 rfl rfl (fun w hw => ⟨_, _, ?_, rfl, Ret.of (hw.pick [] (by decide) rfl rfl)⟩)
                refine ⟨congrArg (Value.int .i64) ?_, rfl⟩
                first | rfl | skip
                unfold errN
                rw [if_neg hc0', if_neg hc1', if_pos (any_at' (k := k) (by omega) (by first | exact badE_b (by unfold badB; exact decide_eq_true (by omega)) | exact badE_o (by omega) (by assumption)))]
               ·have hbb : badB n k = false := (by unfold badB; exact decide_eq_false (by omega))
                refine .skip (.block_normal ?_)
                refine AK.then_ (hK17 _ ?_)
                refine AK.region ?_
                refine .v (.add rfl rfl (by omega)) ?_
                refine .mv rfl (.nil ?_)
                first | refine AK.then_ (hK14 _ _ (k + 1) ⟨by omega, ext_n hg0.2 (badE_no hbb (fun h => by omega))⟩ (by omega) (slr) (fun w hw => hw.pick [0] (by decide) rfl rfl)) | refine AK.then_ (hK14 _ _ (k + 1) ⟨by omega, ext_n hg0.2 (badE_no hbb (fun _ => by assumption))⟩ (by omega) (slr) (fun w hw => hw.pick [0] (by decide) rfl rfl))
              ·have hg_9_37' := hg_9_37
               try simp only [bs] at hg_9_37'
               refine QK.pass rfl rfl (hg_9_37) rfl ?_
               refine QK.pass rfl rfl (hg_9_37) rfl ?_
               refine QK.pass rfl rfl (hg_9_37) rfl ?_
               refine QK.pass rfl rfl (hg_9_37) rfl ?_
               refine QK.pass rfl rfl (hg_9_37) rfl ?_
               refine QK.pass rfl rfl (hg_9_37) rfl ?_
               refine QK.pass rfl rfl (hg_9_37) rfl ?_
               refine QK.pass rfl rfl (hg_9_37) rfl ?_
               refine QK.pass rfl rfl (hg_9_37) rfl ?_
               refine QK.val _ (Yl.pickF rfl (hg_9_37) rfl) ⟨_, rfl, congrArg (fun b => some (Value.bool b)) hg_9_34⟩ rfl ?_
               refine .v (.pickF rfl (hg_9_34) rfl) ?_
               refine QK.nil (QK.fin ?_)
               refine AK.then_ (hK19 _ ?_)
               refine AK.cond_f rfl (rfl) ?_
               have hbb : badB n k = false := (by unfold badB; exact decide_eq_false (by omega))
               refine .skip (.block_normal ?_)
               refine AK.then_ (hK17 _ ?_)
               refine AK.region ?_
               refine .v (.add rfl rfl (by omega)) ?_
               refine .mv rfl (.nil ?_)
               first | refine AK.then_ (hK14 _ _ (k + 1) ⟨by omega, ext_n hg0.2 (badE_no hbb (fun h => by omega))⟩ (by omega) (slr) (fun w hw => hw.pick [0] (by decide) rfl rfl)) | refine AK.then_ (hK14 _ _ (k + 1) ⟨by omega, ext_n hg0.2 (badE_no hbb (fun _ => by assumption))⟩ (by omega) (slr) (fun w hw => hw.pick [0] (by decide) rfl rfl))
       ·refine .exit (.then_exit (.then_exit (.block_exit ?_)))
        refine AK.then_ (hK12 _ ?_)
        refine .sr fun _ hK27 => ?_
        refine .as rfl (.nt hK27 (.ret ?_))
        refine AK.ret1 rfl rfl (fun w hw => ⟨_, _, ?_, rfl, Ret.of (hw.pick [] (by decide) rfl rfl)⟩)
        refine ⟨congrArg (Value.int .i64) ?_, rfl⟩
        unfold errN
        rw [if_neg hc0', if_neg hc1', if_neg (no_any (fun j hj => hg0.2 j (by omega)))]

end Go.Proofs.YtckicbgffhbacaaDoor
