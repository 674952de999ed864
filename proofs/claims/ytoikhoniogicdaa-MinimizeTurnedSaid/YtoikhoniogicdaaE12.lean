import Derived.Test.YtoikhoniogicdaaD2
import Derived.Test.YtoikhoniogicdaaMP
import Derived.Test.YtoikhoniogicdaaS2
set_option linter.unusedVariables false
set_option linter.unusedSimpArgs false
namespace Go.Proofs.Ytoikhoniogicdaa
open Go.Sx Go.RowKit
set_option maxHeartbeats 1000000 in
set_option maxRecDepth 100000 in
theorem s_checkmap (w : World) (v : Value) (d : Dfa) (h : RdD (fun _ => False) w v d) (vm : Value) (m : Dfa) (k : RdD (fun _ => False) w vm m) (hv : VD d) (hvm : VD m) (hLL : d.L = m.L) (vp : Value) (mp : List Int) (hp : RdL (fun _ => False) (Value.int .i64) w vp mp) : CallS Try.prog 46 [v, vm, vp] w (fun r o => ∃ b, r = .bool b ∧ (b = true ↔ MapOK d m mp) ∧ o = []) := by
 have h0 := h
 obtain ⟨vF, vN, rfl, hF, hN⟩ := h
 have hF0 := hF
 have hN0 := hN
 obtain ⟨rs, hrl, hNr, hNi⟩ := hN
 have sF := hF.sl
 have sN := hNr.sl
 have hmf := hF.le
 have hmn := hNr.le
 unfold RdL at hF
 have k0 := k
 obtain ⟨uF, uN, rfl, gF, gN⟩ := k
 have gF0 := gF
 have gN0 := gN
 obtain ⟨ss, gsl, gNr, gNi⟩ := gN
 have tF := gF.sl
 have tN := gNr.sl
 have gmf := gF.le
 have gmn := gNr.le
 unfold RdL at gF
 have hdL := hv.L
 have hdnx := hv.nx
 have hdn := hv.n
 have hds := hv.s
 have hmL := hvm.L
 have hmnx := hvm.nx
 have hmn5 := hvm.n
 have hms := hvm.s
 have hpl := hp.le
 unfold RdL at hp
 refine spec_of Try.func46 rfl (Nat.le_of_ble_eq_true rfl) ?_
 refine .sr fun _ hK1 => ?_
 refine AK.box_ (E := 25) (cs := [.int .i64 d.L, .int .i64 d.s, vF, vN]) rfl rfl rfl trivial rfl (fun bx3 => ?_)
 refine AK.box_ (E := 25) (cs := [.int .i64 m.L, .int .i64 m.s, uF, uN]) rfl rfl rfl trivial rfl (fun bx4 => ?_)
 refine .as rfl (.nt hK1 ?_)
 refine .seq fun _ hK2 => ?_
 refine .seq fun _ hK3 => ?_
 refine AK.quiet mixed krf ?_
 refine .mv rfl ?_
 refine .v (.lenR sl26 rfl (by first | exact rdp | exact .arg (hNi _ (by omega)) | exact .arg (gNi _ (by omega)))) ?_
 refine .v (.fieldAddr fd25_2 rfl) ?_
 refine .v (.loadBox on22 rfl bsp rfl) ?_
 refine .v (.lenR sl22 rfl (by first | exact rdp | exact .arg (hNi _ (by omega)) | exact .arg (gNi _ (by omega)))) ?_
 refine .v (.neq rfl rfl) ?_
 refine .mv rfl ?_
 refine QK.splitB (g := 19) rfl (fun hg_1_6 => ?_) (fun hg_1_6 => ?_)
 ·have hg_1_6' := hg_1_6
  try simp only [bs] at hg_1_6'
  refine QK.pass rfl rfl (hg_1_6) rfl ?_
  refine QK.pass rfl rfl (hg_1_6) rfl ?_
  refine QK.pass rfl rfl (hg_1_6) rfl ?_
  refine QK.pass rfl rfl (hg_1_6) rfl ?_
  refine QK.pass rfl rfl (hg_1_6) rfl ?_
  refine QK.pass rfl rfl (hg_1_6) rfl ?_
  refine QK.pass rfl rfl (hg_1_6) rfl ?_
  refine QK.pass rfl rfl (hg_1_6) rfl ?_
  refine .v (.pickT rfl (hg_1_6) rfl) ?_
  refine QK.nil (QK.fin ?_)
  refine AK.then_ (hK3 _ ?_)
  refine AK.cond_t rfl (rfl) ?_
  refine .sr fun _ hK4 => ?_
  refine .as rfl (.nt hK4 (.ret (.then_ret ?_)))
  refine AK.ret1 rfl rfl (fun w hw => ⟨_, _, ?_, rfl, Ret.of (hw.pick [] (by decide) rfl rfl)⟩)
  refine ⟨false, rfl, ⟨fun h => (by cases h), fun h => ?_⟩, rfl⟩
  exfalso
  have h1 := h.len
  have h2 := h.st
  first | omega | exact hc0 h2
 ·have hg_1_6' := hg_1_6
  try simp only [bs] at hg_1_6'
  refine QK.val _ (Yl.move rfl) ⟨_, rfl, congrArg (fun b => some (Value.bool b)) hg_1_6⟩ rfl ?_
  refine QK.val _ (Yl.fieldAddr fd25_1 rfl) ⟨_, rfl, congrArg (fun b => some (Value.bool b)) hg_1_6⟩ rfl ?_
  refine QK.val _ (Yl.loadBox on3 rfl bsp rfl) ⟨_, rfl, congrArg (fun b => some (Value.bool b)) hg_1_6⟩ rfl ?_
  first | refine QK.val _ (.iN sl26 rfl rfl (hr := (by first | exact rdp | exact .arg (hNi _ (by omega)) | exact .arg (gNi _ (by omega))))) ⟨_, rfl, congrArg (fun b => some (Value.bool b)) hg_1_6⟩ rfl ?_ | refine QK.val _ (.iK sl26 rfl rfl (hr := (by first | exact rdp | exact .arg (hNi _ (by omega)) | exact .arg (gNi _ (by omega))))) ⟨_, rfl, congrArg (fun b => some (Value.bool b)) hg_1_6⟩ rfl ?_
  refine QK.val _ (Yl.loadI on3 rfl (by first | exact rdp | exact .arg (hNi _ (by omega)) | exact .arg (gNi _ (by omega))) (by omega)) ⟨_, rfl, congrArg (fun b => some (Value.bool b)) hg_1_6⟩ rfl ?_
  refine QK.val _ (Yl.fieldAddr fd25_1 rfl) ⟨_, rfl, congrArg (fun b => some (Value.bool b)) hg_1_6⟩ rfl ?_
  refine QK.val _ (Yl.loadBox on3 rfl bsp rfl) ⟨_, rfl, congrArg (fun b => some (Value.bool b)) hg_1_6⟩ rfl ?_
  refine QK.val _ (Yl.neq rfl rfl) ⟨_, rfl, congrArg (fun b => some (Value.bool b)) hg_1_6⟩ rfl ?_
  refine .v (.pickF rfl (hg_1_6) rfl) ?_
  refine QK.nil (QK.fin ?_)
  refine AK.then_ (hK3 _ ?_)
  refine AK.condNe rfl (fun hc0 => ?_) (fun hc0 => ?_)
  ·refine .sr fun _ hK5 => ?_
   refine .as rfl (.nt hK5 (.ret (.then_ret ?_)))
   refine AK.ret1 rfl rfl (fun w hw => ⟨_, _, ?_, rfl, Ret.of (hw.pick [] (by decide) rfl rfl)⟩)
   refine ⟨false, rfl, ⟨fun h => (by cases h), fun h => ?_⟩, rfl⟩
   exfalso
   have h1 := h.len
   have h2 := h.st
   first | omega | exact hc0 h2
  ·have hml : mp.length = d.fin.length := by omega
   have hst0 : mp.getD d.s.toNat 0 = m.s := by first | exact hc0 | exact Classical.not_not.1 hc0
   refine .skip ?_
   refine AK.then_ (hK2 _ ?_)
   refine .seq fun _ hK6 => ?_
   refine .sr fun _ hK7 => ?_
   refine .mv rfl ?_
   refine .v (.lenR sl26 rfl (by first | exact rdp | exact .arg (hNi _ (by omega)) | exact .arg (gNi _ (by omega)))) ?_
   refine .mv rfl (.nt hK7 (.block ?_))
   refine AK.loopK (X := Nat) [(2, _), (3, _), (4, _), (29, _), (30, _)] (fun j => [(31, .int .i64 (j : Int))]) (fun j => [box bx3 25 4 [.int .i64 d.L, .int .i64 d.s, vF, vN], box bx4 25 4 [.int .i64 m.L, .int .i64 m.s, uF, uN]]) (fun j => j ≤ mp.length ∧ ∀ i, i < j → -1 ≤ mp.getD i 0 ∧ mp.getD i 0 < m.fin.length) (fun j => mp.length - j) (0) slr ?_ ?_ ?_ ?_
   ·exact ⟨Nat.zero_le _, fun i hi => (by cases hi)⟩
   ·exact slr
   ·exact fun w hw => hw
   ·intro j hg0 _ hK8
    refine .sr fun _ hK9 => ?_
    refine .v (.lss rfl rfl) ?_
    refine .nt hK9 ?_
    refine .seq fun _ hK10 => ?_
    refine AK.condD rfl (fun hc1 => ?_) (fun hc1 => ?_)
    ·refine .skip ?_
     refine AK.then_ (hK10 _ ?_)
     refine .seq fun _ hK11 => ?_
     refine .block ?_
     refine .sr fun _ hK12 => ?_
     first | refine .v (.iN sl26 rfl rfl (hr := (by first | exact rdp | exact .arg (hNi _ (by omega)) | exact .arg (gNi _ (by omega))))) ?_ | refine .v (.iK sl26 rfl rfl (hr := (by first | exact rdp | exact .arg (hNi _ (by omega)) | exact .arg (gNi _ (by omega))))) ?_
     refine .v (.loadI on3 rfl (by first | exact rdp | exact .arg (hNi _ (by omega)) | exact .arg (gNi _ (by omega))) (by omega)) ?_
     refine .as rfl (.nt hK12 ?_)
     refine .sr fun _ hK13 => ?_
     refine .mv rfl ?_
     refine .v (.lss rfl rfl) ?_
     refine .mv rfl ?_
     refine AK.splitB (g := 37) rfl (fun hg_6_2 => ?_) (fun hg_6_2 => ?_)
     ·have hg_6_2' := hg_6_2
      try simp only [bs] at hg_6_2'
      refine AK.pass rfl rfl (hg_6_2) rfl ?_
      refine AK.pass rfl rfl (hg_6_2) rfl ?_
      refine AK.pass rfl rfl (hg_6_2) rfl ?_
      refine AK.pass rfl rfl (hg_6_2) rfl ?_
      refine AK.pass rfl rfl (hg_6_2) rfl ?_
      refine .v (.pickT rfl (hg_6_2) rfl) ?_
      refine .nt hK13 ?_
      refine AK.cond_t rfl (rfl) ?_
      refine .sr fun _ hK14 => ?_
      refine .as rfl (.nt hK14 (.ret (.block_ret (.then_ret (.then_ret (.block_ret (.then_ret ?_)))))))
      refine AK.ret1 rfl rfl (fun w hw => ⟨_, _, ?_, rfl, Ret.of (hw.pick [] (by decide) rfl rfl)⟩)
      refine ⟨false, rfl, ⟨fun h => (by cases h), fun h => ?_⟩, rfl⟩
      exfalso
      have h1 := h.bd j (by omega)
      omega
     ·have hg_6_2' := hg_6_2
      try simp only [bs] at hg_6_2'
      refine AK.val _ (Yl.move rfl) ⟨_, rfl, congrArg (fun b => some (Value.bool b)) hg_6_2⟩ rfl ?_
      refine AK.val _ (Yl.fieldAddr fd25_2 rfl) ⟨_, rfl, congrArg (fun b => some (Value.bool b)) hg_6_2⟩ rfl ?_
      refine AK.val _ (Yl.loadBox on22 rfl bsp rfl) ⟨_, rfl, congrArg (fun b => some (Value.bool b)) hg_6_2⟩ rfl ?_
      refine AK.val _ (Yl.lenR sl22 rfl (by first | exact rdp | exact .arg (hNi _ (by omega)) | exact .arg (gNi _ (by omega)))) ⟨_, rfl, congrArg (fun b => some (Value.bool b)) hg_6_2⟩ rfl ?_
      refine AK.val _ (Yl.geq rfl rfl) ⟨_, rfl, congrArg (fun b => some (Value.bool b)) hg_6_2⟩ rfl ?_
      refine .v (.pickF rfl (hg_6_2) rfl) ?_
      refine .nt hK13 ?_
      refine AK.condD rfl (fun hc2 => ?_) (fun hc2 => ?_)
      ·refine .sr fun _ hK15 => ?_
       refine .as rfl (.nt hK15 (.ret (.block_ret (.then_ret (.then_ret (.block_ret (.then_ret ?_)))))))
       refine AK.ret1 rfl rfl (fun w hw => ⟨_, _, ?_, rfl, Ret.of (hw.pick [] (by decide) rfl rfl)⟩)
       refine ⟨false, rfl, ⟨fun h => (by cases h), fun h => ?_⟩, rfl⟩
       exfalso
       have h1 := h.bd j (by omega)
       omega
      ·refine .skip (.block_normal ?_)
       refine AK.then_ (hK11 _ ?_)
       refine AK.region ?_
       refine .v (.add rfl rfl (by omega)) ?_
       refine .mv rfl (.nil ?_)
       refine AK.then_ (hK8 _ _ (j + 1) ⟨by omega, all_succ hg0.2 (by omega)⟩ (by omega) (slr) (fun w hw => hw))
    ·have hbd : ∀ i, i < mp.length → -1 ≤ mp.getD i 0 ∧ mp.getD i 0 < m.fin.length := fun i hi => hg0.2 i (by omega)
     refine .exit (.then_exit (.then_exit (.block_exit ?_)))
     refine AK.then_ (hK6 _ ?_)
     refine .seq fun _ hK16 => ?_
     refine .sr fun _ hK17 => ?_
     refine .mv rfl ?_
     refine .v (.lenR sl26 rfl (by first | exact rdp | exact .arg (hNi _ (by omega)) | exact .arg (gNi _ (by omega)))) ?_
     refine .mv rfl (.nt hK17 (.block ?_))
     refine AK.loopK (X := Nat) [(2, _), (3, _), (4, _), (45, _), (46, _)] (fun q => [(47, .int .i64 (q : Int))]) (fun q => [box bx3 25 4 [.int .i64 d.L, .int .i64 d.s, vF, vN], box bx4 25 4 [.int .i64 m.L, .int .i64 m.s, uF, uN]]) (fun q => q ≤ mp.length ∧ ∀ i, i < q → HomAt d m mp i) (fun q => mp.length - q) (0) slr ?_ ?_ ?_ ?_
     ·exact ⟨Nat.zero_le _, fun i hi => (by cases hi)⟩
     ·exact slr
     ·exact fun w hw => hw
     ·intro q hg1 _ hK18
      refine .sr fun _ hK19 => ?_
      refine .v (.lss rfl rfl) ?_
      refine .nt hK19 ?_
      refine .seq fun _ hK20 => ?_
      refine AK.condD rfl (fun hc3 => ?_) (fun hc3 => ?_)
      ·have hqn : q < d.fin.length := by omega
       have hrw := hv.row q hqn
       have hbq := hbd q (by omega)
       refine .skip ?_
       refine AK.then_ (hK20 _ ?_)
       refine .seq fun _ hK21 => ?_
       refine .block ?_
       refine .sr fun _ hK22 => ?_
       refine .mv rfl ?_
       first | refine .v (.iN sl26 rfl rfl (hr := (by first | exact rdp | exact .arg (hNi _ (by omega)) | exact .arg (gNi _ (by omega))))) ?_ | refine .v (.iK sl26 rfl rfl (hr := (by first | exact rdp | exact .arg (hNi _ (by omega)) | exact .arg (gNi _ (by omega))))) ?_
       refine .v (.loadI on3 rfl (by first | exact rdp | exact .arg (hNi _ (by omega)) | exact .arg (gNi _ (by omega))) (by omega)) ?_
       refine .as rfl (.as rfl (.nt hK22 ?_))
       refine .seq fun _ hK23 => ?_
       refine .sr fun _ hK24 => ?_
       refine .mv rfl ?_
       refine .v (.lss rfl rfl) ?_
       refine .nt hK24 ?_
       refine AK.condD rfl (fun hc4 => ?_) (fun hc4 => ?_)
       ·refine .exit (.then_exit (.block_exit ?_))
        refine AK.then_ (hK21 _ ?_)
        refine AK.region ?_
        refine .v (.add rfl rfl (by omega)) ?_
        refine .mv rfl (.nil ?_)
        first | refine AK.then_ (hK18 _ _ (q + 1) ⟨by omega, all_succ hg1.2 (fun h0 => by omega)⟩ (by omega) (slr) (fun w hw => hw)) | refine AK.then_ (hK18 _ _ (q + 1) ⟨by omega, all_succ hg1.2 (fun _ => ⟨hfe, fun x hx => hg2.2 x (by omega)⟩)⟩ (by omega) (slr) (fun w hw => hw))
       ·refine .skip ?_
        refine AK.then_ (hK23 _ ?_)
        refine .seq fun _ hK25 => ?_
        refine .seq fun _ hK26 => ?_
        refine AK.quiet mixed krf ?_
        refine .v (.fieldAddr fd25_2 rfl) ?_
        refine .v (.loadBox on22 rfl bsp rfl) ?_
        refine .mv rfl ?_
        first | refine .v (.iN sl22 rfl rfl (hr := (by first | exact rdp | exact .arg (hNi _ (by omega)) | exact .arg (gNi _ (by omega))))) ?_ | refine .v (.iK sl22 rfl rfl (hr := (by first | exact rdp | exact .arg (hNi _ (by omega)) | exact .arg (gNi _ (by omega))))) ?_
        refine .v (.loadB on4 rfl (by first | exact rdp | exact .arg (hNi _ (by omega)) | exact .arg (gNi _ (by omega))) (by omega)) ?_
        refine .v (.fieldAddr fd25_2 rfl) ?_
        refine .v (.loadBox on22 rfl bsp rfl) ?_
        refine .mv rfl ?_
        first | refine .v (.iN sl22 rfl rfl (hr := (by first | exact rdp | exact .arg (hNi _ (by omega)) | exact .arg (gNi _ (by omega))))) ?_ | refine .v (.iK sl22 rfl rfl (hr := (by first | exact rdp | exact .arg (hNi _ (by omega)) | exact .arg (gNi _ (by omega))))) ?_
        refine .v (.loadB on4 rfl (by first | exact rdp | exact .arg (hNi _ (by omega)) | exact .arg (gNi _ (by omega))) (by omega)) ?_
        refine .v (.neqB bo4 rfl rfl) ?_
        refine QK.nil (QK.fin ?_)
        refine AK.then_ (hK26 _ ?_)
        refine AK.cond rfl (fun hc5 => ?_) (fun hc5 => ?_)
        ·try simp only [bs] at hc5
         refine .sr fun _ hK27 => ?_
         refine .as rfl (.nt hK27 (.ret (.then_ret (.block_ret (.then_ret (.then_ret (.block_ret (.then_ret ?_))))))))
         refine AK.ret1 rfl rfl (fun w hw => ⟨_, _, ?_, rfl, Ret.of (hw.pick [] (by decide) rfl rfl)⟩)
         refine ⟨false, rfl, ⟨fun h => (by cases h), fun h => ?_⟩, rfl⟩
         exfalso
         have h1 := (h.at hqn (by omega)).1
         unfold finQ at h1
         rw [Int.toNat_natCast] at h1
         first | (simp [h1] at hc5; done) | (rw [h1] at hc5; simp at hc5)
        ·try simp only [bs] at hc5
         have hfe : finQ d (q : Int) = finQ m (mp.getD q 0) := by unfold finQ; rw [Int.toNat_natCast]; simpa using hc5
         have hrm := hvm.row (mp.getD q 0).toNat (by omega)
         refine .skip ?_
         refine AK.then_ (hK25 _ ?_)
         refine .sr fun _ hK28 => ?_
         refine .v (.fieldAddr fd25_3 rfl) ?_
         refine .v (.loadBox on23 rfl bsp rfl) ?_
         refine .mv rfl ?_
         first | refine .v (.iN sl23 rfl rfl (hr := (by first | exact rdp | exact .arg (hNi _ (by omega)) | exact .arg (gNi _ (by omega))))) ?_ | refine .v (.iK sl23 rfl rfl (hr := (by first | exact rdp | exact .arg (hNi _ (by omega)) | exact .arg (gNi _ (by omega))))) ?_
         refine .v (.loadV on26 rfl (by first | exact rdp | exact .arg (hNi _ (by omega)) | exact .arg (gNi _ (by omega))) (by omega)) ?_
         refine .v (.lenR sl26 rfl (by first | exact rdp | exact .arg (hNi _ (by omega)) | exact .arg (gNi _ (by omega)))) ?_
         refine .mv rfl (.nt hK28 (.block ?_))
         refine AK.loopK (X := Nat) [(2, _), (3, _), (4, _), (10, _), (45, _), (46, _), (47, _), (69, _), (70, _)] (fun x => [(71, .int .i64 (x : Int))]) (fun x => [box bx3 25 4 [.int .i64 d.L, .int .i64 d.s, vF, vN], box bx4 25 4 [.int .i64 m.L, .int .i64 m.s, uF, uN]]) (fun x => x ≤ (d.nx.getD q []).length ∧ ∀ y, y < x → StepAt d m mp q y) (fun x => (d.nx.getD q []).length - x) (0) slr ?_ ?_ ?_ ?_
         ·exact ⟨Nat.zero_le _, fun i hi => (by cases hi)⟩
         ·exact slr
         ·exact fun w hw => hw
         ·intro x hg2 _ hK29
          refine .sr fun _ hK30 => ?_
          refine .v (.lss rfl rfl) ?_
          refine .nt hK30 ?_
          refine .seq fun _ hK31 => ?_
          refine AK.condD rfl (fun hc6 => ?_) (fun hc6 => ?_)
          ·have hto := hv.to q x hqn (by omega)
           refine .skip ?_
           refine AK.then_ (hK31 _ ?_)
           refine .seq fun _ hK32 => ?_
           refine .block ?_
           refine .sr fun _ hK33 => ?_
           refine .mv rfl ?_
           first | refine .v (.iN sl26 rfl rfl (hr := (by first | exact rdp | exact .arg (hNi _ (by omega)) | exact .arg (gNi _ (by omega))))) ?_ | refine .v (.iK sl26 rfl rfl (hr := (by first | exact rdp | exact .arg (hNi _ (by omega)) | exact .arg (gNi _ (by omega))))) ?_
           refine .v (.loadI on3 rfl (by first | exact rdp | exact .arg (hNi _ (by omega)) | exact .arg (gNi _ (by omega))) (by omega)) ?_
           refine .as rfl (.as rfl (.nt hK33 ?_))
           refine .seq fun _ hK34 => ?_
           refine AK.quiet mixed krf ?_
           refine .mv rfl (.mv rfl ?_)
           first | refine .v (.iN sl26 rfl rfl (hr := (by first | exact rdp | exact .arg (hNi _ (by omega)) | exact .arg (gNi _ (by omega))))) ?_ | refine .v (.iK sl26 rfl rfl (hr := (by first | exact rdp | exact .arg (hNi _ (by omega)) | exact .arg (gNi _ (by omega))))) ?_
           refine .v (.loadI on3 rfl (by first | exact rdp | exact .arg (hNi _ (by omega)) | exact .arg (gNi _ (by omega))) (by omega)) ?_
           refine .v (.fieldAddr fd25_3 rfl) ?_
           refine .v (.loadBox on23 rfl bsp rfl) ?_
           refine .mv rfl ?_
           first | refine .v (.iN sl23 rfl rfl (hr := (by first | exact rdp | exact .arg (hNi _ (by omega)) | exact .arg (gNi _ (by omega))))) ?_ | refine .v (.iK sl23 rfl rfl (hr := (by first | exact rdp | exact .arg (hNi _ (by omega)) | exact .arg (gNi _ (by omega))))) ?_
           refine .v (.loadV on26 rfl (by first | exact rdp | exact .arg (hNi _ (by omega)) | exact .arg (gNi _ (by omega))) (by omega)) ?_
           refine .mv rfl ?_
           first | refine .v (.iN sl26 rfl rfl (hr := (by first | exact rdp | exact .arg (hNi _ (by omega)) | exact .arg (gNi _ (by omega))))) ?_ | refine .v (.iK sl26 rfl rfl (hr := (by first | exact rdp | exact .arg (hNi _ (by omega)) | exact .arg (gNi _ (by omega))))) ?_
           refine .v (.loadI on3 rfl (by first | exact rdp | exact .arg (hNi _ (by omega)) | exact .arg (gNi _ (by omega))) (by omega)) ?_
           refine .v (.neq rfl rfl) ?_
           refine QK.nil (QK.fin ?_)
           refine AK.then_ (hK34 _ ?_)
           refine AK.condNe rfl (fun hc7 => ?_) (fun hc7 => ?_)
           ·refine .sr fun _ hK35 => ?_
            refine .as rfl (.nt hK35 (.ret (.block_ret (.then_ret (.then_ret (.block_ret (.block_ret (.then_ret (.then_ret (.block_ret (.then_ret ?_)))))))))))
            refine AK.ret1 rfl rfl (fun w hw => ⟨_, _, ?_, rfl, Ret.of (hw.pick [] (by decide) rfl rfl)⟩)
            refine ⟨false, rfl, ⟨fun h => (by cases h), fun h => ?_⟩, rfl⟩
            exfalso
            exact hc7 ((h.at hqn (by omega)).2 x (by omega))
           ·have hst : StepAt d m mp q x := hc7
            refine .skip (.block_normal ?_)
            refine AK.then_ (hK32 _ ?_)
            refine AK.region ?_
            refine .v (.add rfl rfl (by omega)) ?_
            refine .mv rfl (.nil ?_)
            refine AK.then_ (hK29 _ _ (x + 1) ⟨by omega, all_succ hg2.2 hst⟩ (by omega) (slr) (fun w hw => hw))
          ·refine .exit (.then_exit (.then_exit (.block_exit (.block_normal ?_))))
           refine AK.then_ (hK21 _ ?_)
           refine AK.region ?_
           refine .v (.add rfl rfl (by omega)) ?_
           refine .mv rfl (.nil ?_)
           first | refine AK.then_ (hK18 _ _ (q + 1) ⟨by omega, all_succ hg1.2 (fun h0 => by omega)⟩ (by omega) (slr) (fun w hw => hw)) | refine AK.then_ (hK18 _ _ (q + 1) ⟨by omega, all_succ hg1.2 (fun _ => ⟨hfe, fun x hx => hg2.2 x (by omega)⟩)⟩ (by omega) (slr) (fun w hw => hw))
      ·refine .exit (.then_exit (.then_exit (.block_exit ?_)))
       refine AK.then_ (hK16 _ ?_)
       refine .sr fun _ hK36 => ?_
       refine .as rfl (.nt hK36 (.ret ?_))
       refine AK.ret1 rfl rfl (fun w hw => ⟨_, _, ?_, rfl, Ret.of (hw.pick [] (by decide) rfl rfl)⟩)
       refine ⟨true, rfl, ⟨fun _ => MapOK.mk' hml hbd hst0 (fun i hi => hg1.2 i (by omega)), fun _ => rfl⟩, rfl⟩

set_option maxHeartbeats 400000 in
set_option maxRecDepth 100000 in
theorem s_checkacc (w : World) (vm : Value) (m : Dfa) (k : RdD (fun _ => False) w vm m) (hvm : VD m) (va : Value) (ac : List (List UInt8)) (ha : RdL (fun _ => False) sv w va ac) (hla : ∀ a ∈ ac, a.length ≤ 9223372036854775807) : CallS Try.prog 47 [vm, va] w (fun r o => ∃ b, r = .bool b ∧ (b = true ↔ AccOK m ac) ∧ o = []) := by
 have k0 := k
 obtain ⟨uF, uN, rfl, gF, gN⟩ := k
 have gF0 := gF
 have gN0 := gN
 obtain ⟨ss, gsl, gNr, gNi⟩ := gN
 have tF := gF.sl
 have tN := gNr.sl
 have gmf := gF.le
 have gmn := gNr.le
 unfold RdL at gF
 have hmL := hvm.L
 have hmnx := hvm.nx
 have hmn5 := hvm.n
 have hms := hvm.s
 have hal := ha.le
 unfold RdL at ha
 refine spec_of Try.func47 rfl (Nat.le_of_ble_eq_true rfl) ?_
 refine .sr fun _ hK1 => ?_
 refine AK.box_ (E := 25) (cs := [.int .i64 m.L, .int .i64 m.s, uF, uN]) rfl rfl rfl trivial rfl (fun bx2 => ?_)
 refine .as rfl (.nt hK1 ?_)
 refine .seq fun _ hK2 => ?_
 refine .sr fun _ hK3 => ?_
 refine .mv rfl ?_
 refine .v (.lenR sl49 rfl rdp) ?_
 refine .v (.fieldAddr fd25_2 rfl) ?_
 refine .v (.loadBox on22 rfl bsp rfl) ?_
 refine .v (.lenR sl22 rfl rdp) ?_
 refine .v (.neq rfl rfl) ?_
 refine .nt hK3 ?_
 refine AK.condNe rfl (fun hc0 => ?_) (fun hc0 => ?_)
 ·refine .sr fun _ hK4 => ?_
  refine .as rfl (.nt hK4 (.ret (.then_ret ?_)))
  refine AK.ret1 rfl rfl (fun w hw => ⟨_, _, ?_, rfl, Ret.of (hw.pick [] (by decide) rfl rfl)⟩)
  refine ⟨false, rfl, ⟨fun h => (by cases h), fun h => ?_⟩, rfl⟩
  exfalso
  have h1 := h.len
  omega
 ·refine .skip ?_
  refine AK.then_ (hK2 _ ?_)
  refine .seq fun _ hK5 => ?_
  refine .sr fun _ hK6 => ?_
  refine .mv rfl ?_
  refine .v (.lenR sl49 rfl rdp) ?_
  refine .mv rfl (.nt hK6 (.block ?_))
  refine AK.loopK (X := Nat) [(2, _), (13, _), (14, _)] (fun j => [(15, .int .i64 (j : Int))]) (fun j => [box bx2 25 4 [.int .i64 m.L, .int .i64 m.s, uF, uN]]) (fun j => j ≤ ac.length ∧ ∀ i, i < j → RunV m m.s (ac.getD i []) = (i : Int)) (fun j => ac.length - j) (0) slr ?_ ?_ ?_ ?_
  ·exact ⟨Nat.zero_le _, fun i hi => (by cases hi)⟩
  ·exact slr
  ·exact fun w hw => hw
  ·intro j hg0 _ hK7
   refine .sr fun _ hK8 => ?_
   refine .v (.lss rfl rfl) ?_
   refine .nt hK8 ?_
   refine .seq fun _ hK9 => ?_
   refine AK.condD rfl (fun hc1 => ?_) (fun hc1 => ?_)
   ·refine .skip ?_
    refine AK.then_ (hK9 _ ?_)
    refine .seq fun _ hK10 => ?_
    refine .block ?_
    refine .sr fun _ hK11 => ?_
    refine .mv rfl ?_
    first | refine .v (.iN sl49 rfl rfl) ?_ | refine .v (.iK sl49 rfl rfl) ?_
    refine .v (.loadS on9 rfl rdp (by omega)) ?_
    refine .as rfl (.as rfl (.nt hK11 ?_))
    refine .sr fun _ hK12 => ?_
    refine .v (.loadBoxG ag25 rfl bsp rfl rfl) ?_
    refine .v (.fieldAddr fd25_1 rfl) ?_
    refine .v (.loadBox on3 rfl bsp rfl) ?_
    refine .mv rfl ?_
    refine AK.call co29 rfl (fun w hw => s_run w _ m (k0.at hw) m.s (ac.getD j []) (hla _ (getD_mem (by omega)))) trivial rfl ?_
    rintro r o ⟨rfl, rfl⟩
    refine .mv rfl ?_
    refine .v (.neq rfl rfl) ?_
    refine .nt hK12 ?_
    refine AK.condNe rfl (fun hc2 => ?_) (fun hc2 => ?_)
    ·refine .sr fun _ hK13 => ?_
     refine .as rfl (.nt hK13 (.ret (.block_ret (.then_ret (.then_ret (.block_ret (.then_ret ?_)))))))
     refine AK.ret1 rfl rfl (fun w hw => ⟨_, _, ?_, rfl, Ret.of (hw.pick [] (by decide) rfl rfl)⟩)
     refine ⟨false, rfl, ⟨fun h => (by cases h), fun h => ?_⟩, rfl⟩
     exfalso
     exact hc2 (h.run j (by omega))
    ·refine .skip (.block_normal ?_)
     refine AK.then_ (hK10 _ ?_)
     refine AK.region ?_
     refine .v (.add rfl rfl (by omega)) ?_
     refine .mv rfl (.nil ?_)
     refine AK.then_ (hK7 _ _ (j + 1) ⟨by omega, all_succ hg0.2 (by first | exact hc2 | exact Classical.not_not.1 hc2)⟩ (by omega) (slr) (fun w hw => hw))
   ·refine .exit (.then_exit (.then_exit (.block_exit ?_)))
    refine AK.then_ (hK5 _ ?_)
    refine .sr fun _ hK14 => ?_
    refine .as rfl (.nt hK14 (.ret ?_))
    refine AK.ret1 rfl rfl (fun w hw => ⟨_, _, ?_, rfl, Ret.of (hw.pick [] (by decide) rfl rfl)⟩)
    refine ⟨true, rfl, ⟨fun _ => ⟨by omega, fun i hi => hg0.2 i (by omega)⟩, fun _ => rfl⟩, rfl⟩

theorem bbeq (a b : List UInt8) : ((⟨a.toArray⟩ : ByteArray) == ⟨b.toArray⟩) = decide (a = b) := by
  show (a.toArray == b.toArray) = decide (a = b)
  rw [Bool.eq_iff_iff, beq_iff_eq, decide_eq_true_eq]
  constructor
  · intro h; simpa using h
  · intro h; rw [h]
theorem keyStr {P : Program} {kt : TypeId} (hk : P.underlying kt = some .string) : KeyL P kt sv where
  find := by
    intro a es ks w h
    have now : ∀ (es : List MapEntry) (ks : List (List UInt8)) (j : Nat), es.map (·.key) = ks.map sv → Instr.findNow .string (sv a) es j = some ((fidx a ks).bind fun i => (es[i]?).map fun e => (j + i, e.val)) := by
      intro es
      induction es with
      | nil => intro ks j h; cases ks with
        | nil => simp [Instr.findNow, fidx]
        | cons k ks => simp at h
      | cons e es ih =>
        intro ks j h
        cases ks with
        | nil => simp at h
        | cons k ks =>
          simp at h
          have hq : Instr.sameNow .string (sv a) (sv k) = some (decide (a = k)) := by
            show some ((⟨a.toArray⟩ : ByteArray) == ⟨k.toArray⟩) = _
            rw [bbeq]
          simp only [Instr.findNow, h.1, hq, fidx]
          by_cases hak : a = k
          · simp [hak]
          · simp only [hak, decide_false, if_false]
            rw [ih ks (j + 1) (by simpa using h.2)]
            cases fidx a ks with
            | none => simp
            | some i =>
              simp only [Option.map_some, Option.bind_some, List.getElem?_cons_succ]
              cases es[i]? with
              | none => rfl
              | some e' => simp; omega
    simp only [Instr.findKey, Sem.run_bind, run_underlying hk, Result.andThen_ok, now es ks 0 h]
    simp
  check := by
    intro e a w
    have : ∀ n, (Instr.checkKey e (n + 1) kt (sv a)).run P w = .ok () w := fun n => by simp [Instr.checkKey, run_underlying hk, sv]
    exact this 9999
  same := by
    intro a
    have : ∀ n, Instr.sameBits (n + 1) (sv a) (sv a) = true := fun n => by
      show ((⟨a.toArray⟩ : ByteArray) == ⟨a.toArray⟩) = true
      rw [bbeq]; simp
    exact this 9999
theorem matR_nil {m : Dfa} {ts : List (List UInt8)} : matR m (ts.take 0) = List.replicate m.fin.length [] := by
  unfold matR
  rw [List.take_zero, show rowB m [] = (fun _ => []) from funext fun q => rfl, List.map_const', List.length_range]
theorem matG_nil {E : TypeId} {c : Nat} {w : World} (i : Nat) (A : Asn) (h : (matG byv E (List.replicate c (.slice none 0 0)) (List.replicate c []))[i]? = some A) : A.holds w (fun _ => False) := by
  have hlen : (matG byv E (List.replicate c (.slice none 0 0)) (List.replicate c [])).length = c := by rw [matG_length (by simp)]; simp
  have hi : i < c := by rw [← hlen]; exact (List.getElem?_eq_some_iff.1 h).1
  rw [matG_get (by simp) (by simpa using hi)] at h
  have e1 : (List.replicate c (Value.slice none 0 0)).getD i undef = .slice none 0 0 := by simp [List.getD_eq_getElem?_getD, hi]
  have e2 : (List.replicate c ([] : List UInt8)).getD i [] = [] := by simp [List.getD_eq_getElem?_getD, hi]
  rw [e1, e2] at h
  cases h
  exact ⟨⟨rfl, .inl ⟨rfl, rfl⟩⟩, fun b => by simp [Value.ownBlock]⟩
theorem matG_set {E : TypeId} {rs : List Value} {xss : List (List UInt8)} (h : rs.length = xss.length) {i : Nat} (hi : i < xss.length) (v : Value) (ys : List UInt8) : (matG byv E rs xss).set i (row v E 1 ys.length (ys.map byv)) = matG byv E (rs.set i v) (xss.set i ys) := by
  unfold matG
  apply List.ext_getElem
  · simp
  · intro k h1 h2
    simp only [List.getElem_set, List.getElem_map, List.getElem_zip]
    by_cases e : i = k
    · subst e; simp
    · simp [e]
theorem rows_own {C : Cx} {w : World} {mv : Value} {EB : TypeId} {m : Dfa} {ts : List (List UInt8)} {l : List UInt8} {q : Nat} {rs : List Value} {av : Value} {b0 : Asn} {E : TypeId} (hrl : rs.length = m.fin.length) (hq : q < m.fin.length) {c : UInt8} (hc : bitT m (q : Int) l = c)
    (hw : HW C [b0, row mv EB 1 m.fin.length (rs.set q av), bigA ((matG byv E rs (matB m ts l q)).set q (row av E 1 (((matB m ts l q).getD q []).length + 1) (((matB m ts l q).getD q []).map byv ++ (byv c).cells.toList)))] w) :
    HW C [b0, row mv EB 1 m.fin.length (rs.set q av), bigA (matG byv E (rs.set q av) (matB m ts l (q + 1)))] w := by
  have hml := matB_len m ts l q
  have e : (((matB m ts l q).getD q []).map byv ++ (byv c).cells.toList) = (rowB m ts q ++ [bitT m (q : Int) l]).map byv := by rw [matB_get hq, hc]; simp [byv, Value.cells]
  have e2 : ((matB m ts l q).getD q []).length + 1 = (rowB m ts q ++ [bitT m (q : Int) l]).length := by rw [matB_get hq]; simp
  rw [e, e2, matG_set (by rw [hml]; exact hrl) (by rw [hml]; exact hq), matB_set hq] at hw
  exact hw
set_option maxHeartbeats 2000000 in
set_option maxRecDepth 100000 in
theorem s_checktests (w : World) (vm : Value) (m : Dfa) (k : RdD (fun _ => False) w vm m) (hvm : VD m) (vt : Value) (ts : List (List UInt8)) (ht : RdL (fun _ => False) sv w vt ts) (hlt : ∀ a ∈ ts, a.length ≤ 9223372036854775807) : CallS Try.prog 48 [vm, vt] w (fun r o => ∃ b, r = .bool b ∧ (b = true ↔ TestsOK m ts) ∧ o = []) := by
 have k0 := k
 obtain ⟨uF, uN, rfl, gF, gN⟩ := k
 have gF0 := gF
 have gN0 := gN
 obtain ⟨ss, gsl, gNr, gNi⟩ := gN
 have tF := gF.sl
 have tN := gNr.sl
 have gmf := gF.le
 have gmn := gNr.le
 unfold RdL at gF
 have hmL := hvm.L
 have hmnx := hvm.nx
 have hmn5 := hvm.n
 have hms := hvm.s
 have htl := ht.le
 unfold RdL at ht
 refine spec_of Try.func48 rfl (Nat.le_of_ble_eq_true rfl) ?_
 refine .sr fun _ hK1 => ?_
 refine AK.box_ (E := 25) (cs := [.int .i64 m.L, .int .i64 m.s, uF, uN]) rfl rfl rfl trivial rfl (fun bx2 => ?_)
 refine .as rfl (.nt hK1 ?_)
 refine .seq fun _ hK2 => ?_
 refine .sr fun _ hK3 => ?_
 refine .mv rfl ?_
 refine .v (.lenR sl49 rfl (by first | exact rdp | exact .arg (gNi _ (by omega)))) ?_
 refine .v (.fieldAddr fd25_2 rfl) ?_
 refine .v (.loadBox on22 rfl bsp rfl) ?_
 refine .v (.lenR sl22 rfl (by first | exact rdp | exact .arg (gNi _ (by omega)))) ?_
 refine .v (.geq rfl rfl) ?_
 refine .nt hK3 ?_
 refine AK.condD rfl (fun hc0 => ?_) (fun hc0 => ?_)
 ·refine .sr fun _ hK4 => ?_
  refine .as rfl (.nt hK4 (.ret (.then_ret ?_)))
  refine AK.ret1 rfl rfl (fun w hw => ⟨_, _, ?_, rfl, Ret.of (hw.pick [] (by decide) rfl rfl)⟩)
  refine ⟨false, rfl, ⟨fun h => (by cases h), fun h => ?_⟩, rfl⟩
  exfalso
  have h1 := h.len
  omega
 ·refine .skip ?_
  refine AK.then_ (hK2 _ ?_)
  refine .sr fun _ hK5 => ?_
  refine .v (.fieldAddr fd25_2 rfl) ?_
  refine .v (.loadBox on22 rfl bsp rfl) ?_
  refine .v (.lenR sl22 rfl (by first | exact rdp | exact .arg (gNi _ (by omega)))) ?_
  refine AK.make1 (n := m.fin.length) sl86 el71 rfl rfl rfl (by omega) (by omega) trivial rfl (fun mv => ?_)
  refine AK.shape 1 rfl (fun smv => ?_)
  refine .as rfl (.nt hK5 ?_)
  refine .seq fun _ hK6 => ?_
  refine .sr fun _ hK7 => ?_
  refine .mv rfl ?_
  refine .v (.lenR sl49 rfl (by first | exact rdp | exact .arg (gNi _ (by omega)))) ?_
  refine .mv rfl (.nt hK7 (.block ?_))
  refine AK.loopK (X := Nat × List Value) [(2, _), (5, _), (25, _), (26, _)] (fun x => [(27, .int .i64 (x.1 : Int))]) (fun x => [box bx2 25 4 [.int .i64 m.L, .int .i64 m.s, uF, uN], row mv 71 1 m.fin.length x.2, bigA (matG byv 5 x.2 (matR m (ts.take x.1)))]) (fun x => x.1 ≤ ts.length ∧ x.2.length = m.fin.length ∧ ∀ i, i < x.1 → validW m.L (ts.getD i []) = true) (fun x => ts.length - x.1) ((0, List.replicate m.fin.length (.slice none 0 0))) slr ?_ ?_ ?_ ?_
  ·exact ⟨Nat.zero_le _, (by simp), fun i hi => (by cases hi)⟩
  ·exact slr
  ·exact fun w hw => by dsimp only; rw [matR_nil]; exact hw.ghostBig _ (matG_nil (E := 5))
  ·intro x hg0 _ hK8
   refine .sr fun _ hK9 => ?_
   refine .v (.lss rfl rfl) ?_
   refine .nt hK9 ?_
   refine .seq fun _ hK10 => ?_
   refine AK.condD rfl (fun hc1 => ?_) (fun hc1 => ?_)
   ·refine .skip ?_
    refine AK.then_ (hK10 _ ?_)
    refine .seq fun _ hK11 => ?_
    refine .block ?_
    refine .sr fun _ hK12 => ?_
    first | refine .v (.iN sl49 rfl rfl (hr := (by first | exact rdp | exact .arg (gNi _ (by omega))))) ?_ | refine .v (.iK sl49 rfl rfl (hr := (by first | exact rdp | exact .arg (gNi _ (by omega))))) ?_
    refine .v (.loadS on9 rfl (by first | exact rdp | exact .arg (gNi _ (by omega))) (by omega)) ?_
    refine .as rfl (.nt hK12 ?_)
    refine .seq fun _ hK13 => ?_
    refine .sr fun _ hK14 => ?_
    refine .mv rfl ?_
    refine .v (.fieldAddr fd25_0 rfl) ?_
    refine .v (.loadBox on3 rfl bsp rfl) ?_
    refine AK.call co45 rfl (fun w hw => s_wvalid w (ts.getD x.1 []) m.L (hlt _ (getD_mem (by omega)))) trivial rfl ?_
    rintro r o ⟨rfl, rfl⟩
    refine .v (.not rfl) ?_
    refine .nt hK14 ?_
    refine AK.condB rfl (fun hc2 => ?_) (fun hc2 => ?_)
    ·refine .sr fun _ hK15 => ?_
     refine .as rfl (.nt hK15 (.ret (.then_ret (.block_ret (.then_ret (.then_ret (.block_ret (.then_ret ?_))))))))
     refine AK.ret1 rfl rfl (fun w hw => ⟨_, _, ?_, rfl, Ret.of (hw.pick [] (by decide) rfl rfl)⟩)
     refine ⟨false, rfl, ⟨fun h => (by cases h), fun h => ?_⟩, rfl⟩
     exfalso
     have h1 := h.ok _ (getD_mem (d := []) (xs := ts) (k := x.1) (by omega))
     rw [h1] at hc2; cases hc2
    ·have hwv : validW m.L (ts.getD x.1 []) = true := by simpa using hc2
     have hok := (validW_iff.1 hwv).2
     have hwl := hlt (ts.getD x.1 []) (getD_mem (by omega))
     refine .skip ?_
     refine AK.then_ (hK13 _ ?_)
     refine .sr fun _ hK16 => ?_
     refine .mv rfl ?_
     refine .v (.lenR sl86 rfl (by first | exact rdp | exact .arg (gNi _ (by omega)))) ?_
     refine .mv rfl (.nt hK16 (.block ?_))
     refine AK.loopK (X := Nat × List Value) [(2, _), (5, _), (7, _), (25, _), (26, _), (27, _), (37, _)] (fun y => [(38, .int .i64 (y.1 : Int))]) (fun y => [box bx2 25 4 [.int .i64 m.L, .int .i64 m.s, uF, uN], row mv 71 1 m.fin.length y.2, bigA (matG byv 5 y.2 (matB m (ts.take x.1) (ts.getD x.1 []) y.1))]) (fun y => y.1 ≤ m.fin.length ∧ y.2.length = m.fin.length) (fun y => m.fin.length - y.1) ((0, x.2)) slr ?_ ?_ ?_ ?_
     ·exact ⟨Nat.zero_le _, hg0.2.1⟩
     ·exact slr
     ·exact fun w hw => by dsimp only; rw [matB_zero]; exact hw
     ·intro y hg1 _ hK17
      have hyl := hg1.2
      have hmbl := matB_len m (ts.take x.1) (ts.getD x.1 []) y.1
      refine .sr fun _ hK18 => ?_
      refine .v (.lss rfl rfl) ?_
      refine .nt hK18 ?_
      refine .seq fun _ hK19 => ?_
      refine AK.condD rfl (fun hc3 => ?_) (fun hc3 => ?_)
      ·refine .skip ?_
       refine AK.then_ (hK19 _ ?_)
       refine .seq fun _ hK20 => ?_
       refine .block ?_
       refine .sr fun _ hK21 => ?_
       refine .mv rfl (.as rfl (.nt hK21 ?_))
       refine .sr fun _ hK22 => ?_
       refine .mv rfl (.as rfl (.nt hK22 ?_))
       refine .seq fun _ hK23 => ?_
       refine .sr fun _ hK24 => ?_
       refine .mv rfl ?_
       refine .v (.lenS un9 rfl) ?_
       refine .mv rfl (.nt hK24 (.block ?_))
       refine AK.loopK (X := Nat) [(2, _), (5, _), (7, _), (8, _), (25, _), (26, _), (27, _), (37, _), (38, _), (43, _)] (fun z => [(9, .int .i64 (runI m (y.1 : Int) ((ts.getD x.1 []).take z))), (44, .int .i64 (z : Int))]) (fun z => [box bx2 25 4 [.int .i64 m.L, .int .i64 m.s, uF, uN], row mv 71 1 m.fin.length y.2, bigA (matG byv 5 y.2 (matB m (ts.take x.1) (ts.getD x.1 []) y.1))]) (fun z => z ≤ (ts.getD x.1 []).length) (fun z => (ts.getD x.1 []).length - z) (0) slr ?_ ?_ ?_ ?_
       ·exact Nat.zero_le _
       ·exact slr
       ·exact fun w hw => hw
       ·intro z hg2 _ hK25
        have hb := runI_bd hvm (q := (y.1 : Int)) ⟨by omega, by omega⟩ hwv z
        have hrw := hvm.row (runI m (y.1 : Int) ((ts.getD x.1 []).take z)).toNat (by omega)
        have hc8 := UInt8.toNat_lt ((ts.getD x.1 []).getD z 0)
        refine .sr fun _ hK26 => ?_
        refine .v (.lss rfl rfl) ?_
        refine .nt hK26 ?_
        refine .seq fun _ hK27 => ?_
        refine AK.condD rfl (fun hc4 => ?_) (fun hc4 => ?_)
        ·have hok1 := hok z (by omega)
         refine .skip ?_
         refine AK.then_ (hK27 _ ?_)
         refine .seq fun _ hK28 => ?_
         refine .block ?_
         refine .sr fun _ hK29 => ?_
         refine .mv rfl (.as rfl (.nt hK29 ?_))
         refine AK.quiet mixed krf ?_
         refine .v (.fieldAddr fd25_3 rfl) ?_
         refine .v (.loadBox on23 rfl bsp rfl) ?_
         refine .mv rfl ?_
         first | refine .v (.iN sl23 rfl rfl (hr := (by first | exact rdp | exact .arg (gNi _ (by omega))))) ?_ | refine .v (.iK sl23 rfl rfl (hr := (by first | exact rdp | exact .arg (gNi _ (by omega))))) ?_
         refine .v (.loadV on26 rfl (by first | exact rdp | exact .arg (gNi _ (by omega))) (by omega)) ?_
         refine .mv rfl (.mv rfl ?_)
         first | refine .v (.idxSN un9 rfl rfl (by omega)) ?_ | refine .v (.idxS un9 rfl rfl (by omega)) ?_
         refine .v (.subU8 rfl rfl (by omega)) ?_
         first | refine .v (.iN sl26 rfl rfl (hr := (by first | exact rdp | exact .arg (gNi _ (by omega))))) ?_ | refine .v (.iK sl26 rfl rfl (hr := (by first | exact rdp | exact .arg (gNi _ (by omega))))) ?_
         refine .v (.loadI on3 rfl (by first | exact rdp | exact .arg (gNi _ (by omega))) (by omega)) ?_
         refine .as rfl ?_
         refine QK.nil (QK.fin ?_)
         refine .block_normal ?_
         refine AK.then_ (hK28 _ ?_)
         refine AK.region ?_
         refine .v (.add rfl rfl (by omega)) ?_
         refine .mv rfl (.nil ?_)
         refine AK.then_ (hK25 _ _ (z + 1) (by omega) (by omega) (.cons (slI rfl (by rw [runI_snoc m (y.1 : Int) (ts.getD x.1 []) z (by omega)]; rfl)) (slr)) (fun w hw => hw))
        ·have hze : runI m (y.1 : Int) ((ts.getD x.1 []).take z) = runI m (y.1 : Int) (ts.getD x.1 []) := by rw [show z = (ts.getD x.1 []).length by omega, List.take_length]
         rw [hze]
         have hb := runI_bdw hvm (q := (y.1 : Int)) ⟨by omega, by omega⟩ hwv
         refine .exit (.then_exit (.then_exit (.block_exit ?_)))
         refine AK.then_ (hK23 _ ?_)
         refine .sr fun _ hK30 => ?_
         refine .as rfl (.nt hK30 ?_)
         refine .seq fun _ hK31 => ?_
         refine .sr fun _ hK32 => ?_
         refine .v (.fieldAddr fd25_2 rfl) ?_
         refine .v (.loadBox on22 rfl bsp rfl) ?_
         refine .mv rfl ?_
         first | refine .v (.iN sl22 rfl rfl (hr := (by first | exact rdp | exact .arg (gNi _ (by omega))))) ?_ | refine .v (.iK sl22 rfl rfl (hr := (by first | exact rdp | exact .arg (gNi _ (by omega))))) ?_
         refine .v (.loadB on4 rfl (by first | exact rdp | exact .arg (gNi _ (by omega))) (by omega)) ?_
         refine .nt hK32 ?_
         refine AK.cond rfl (fun hc5 => ?_) (fun hc5 => ?_)
         ·try simp only [bs] at hc5
          have hbv : bitT m (y.1 : Int) (ts.getD x.1 []) = 1 := by unfold bitT finQ; rw [if_pos hc5]
          refine AK.region ?_
          refine .as rfl (.nt hK31 ?_)
          refine AK.region ?_
          refine .mv rfl (.mv rfl (.mv rfl (.mv rfl ?_)))
          first | refine .v (.iN sl86 rfl rfl (hr := (by first | exact rdp | exact .arg (gNi _ (by omega))))) ?_ | refine .v (.iK sl86 rfl rfl (hr := (by first | exact rdp | exact .arg (gNi _ (by omega))))) ?_
          refine .v (.loadV on71 rfl (by first | exact rdp | exact .arg (gNi _ (by omega))) (by omega)) ?_
          refine .mv rfl ?_
          refine AK.append1In 2 y.1 rfl (matG_get (by rw [hmbl]; exact hyl) (by rw [hmbl]; omega)) sl71 el5 rfl (by decide) rfl (by intro k hk; cases hk; rfl) rfl (by intro u hu; simp [Value.cells] at hu; subst hu; rfl) (by rw [matB_get (by omega), rowB_len, List.length_take]; omega) (by rw [matB_get (by omega), rowB_len, List.length_take]; omega) (by decide) rfl rfl (fun av _ hsl => ?_)
          first | refine .v (.iN sl86 rfl rfl (hr := (by first | exact rdp | exact .arg (gNi _ (by omega))))) ?_ | refine .v (.iK sl86 rfl rfl (hr := (by first | exact rdp | exact .arg (gNi _ (by omega))))) ?_
          refine AK.store1 1 rfl sz71 rfl rfl hsl.cells hsl.one (by omega) trivial ?_
          refine .nil (.block_normal ?_)
          refine AK.then_ (hK20 _ ?_)
          refine AK.region ?_
          refine .v (.add rfl rfl (by omega)) ?_
          refine .mv rfl (.nil ?_)
          refine AK.then_ (hK17 _ _ ((y.1 + 1, y.2.set y.1 av)) ⟨by dsimp only; omega, by dsimp only; rw [List.length_set]; exact hyl⟩ (by dsimp only; omega) (slr) (fun w hw => rows_own hyl (by omega) hbv hw))
         ·try simp only [bs] at hc5
          have hbv : bitT m (y.1 : Int) (ts.getD x.1 []) = 0 := by unfold bitT finQ; rw [if_neg (by simpa using hc5)]
          refine .skip ?_
          refine AK.then_ (hK31 _ ?_)
          refine AK.region ?_
          refine .mv rfl (.mv rfl (.mv rfl (.mv rfl ?_)))
          first | refine .v (.iN sl86 rfl rfl (hr := (by first | exact rdp | exact .arg (gNi _ (by omega))))) ?_ | refine .v (.iK sl86 rfl rfl (hr := (by first | exact rdp | exact .arg (gNi _ (by omega))))) ?_
          refine .v (.loadV on71 rfl (by first | exact rdp | exact .arg (gNi _ (by omega))) (by omega)) ?_
          refine .mv rfl ?_
          refine AK.append1In 2 y.1 rfl (matG_get (by rw [hmbl]; exact hyl) (by rw [hmbl]; omega)) sl71 el5 rfl (by decide) rfl (by intro k hk; cases hk; rfl) rfl (by intro u hu; simp [Value.cells] at hu; subst hu; rfl) (by rw [matB_get (by omega), rowB_len, List.length_take]; omega) (by rw [matB_get (by omega), rowB_len, List.length_take]; omega) (by decide) rfl rfl (fun av _ hsl => ?_)
          first | refine .v (.iN sl86 rfl rfl (hr := (by first | exact rdp | exact .arg (gNi _ (by omega))))) ?_ | refine .v (.iK sl86 rfl rfl (hr := (by first | exact rdp | exact .arg (gNi _ (by omega))))) ?_
          refine AK.store1 1 rfl sz71 rfl rfl hsl.cells hsl.one (by omega) trivial ?_
          refine .nil (.block_normal ?_)
          refine AK.then_ (hK20 _ ?_)
          refine AK.region ?_
          refine .v (.add rfl rfl (by omega)) ?_
          refine .mv rfl (.nil ?_)
          refine AK.then_ (hK17 _ _ ((y.1 + 1, y.2.set y.1 av)) ⟨by dsimp only; omega, by dsimp only; rw [List.length_set]; exact hyl⟩ (by dsimp only; omega) (slr) (fun w hw => rows_own hyl (by omega) hbv hw))
      ·refine .exit (.then_exit (.then_exit (.block_exit (.block_normal ?_))))
       refine AK.then_ (hK11 _ ?_)
       refine AK.region ?_
       refine .v (.add rfl rfl (by omega)) ?_
       refine .mv rfl (.nil ?_)
       refine AK.then_ (hK8 _ _ ((x.1 + 1, y.2)) ⟨by dsimp only; omega, hg1.2, all_succ hg0.2.2 hwv⟩ (by dsimp only; omega) (slr) (fun w hw => by dsimp only; rw [take_snocD [] ts x.1 (by omega), ← matB_full, show m.fin.length = y.1 by omega]; rw [show m.fin.length = y.1 by omega] at hw; exact hw))
   ·have hmrl := matR_len m ts
    have hx2l := hg0.2.1
    refine .exit (.then_exit (.then_exit (.block_exit ?_)))
    refine AK.then_ (hK6 _ ?_)
    refine .sr fun _ hK33 => ?_
    refine AK.makeMap trivial rfl (fun mb => ?_)
    refine .as rfl (.nt hK33 ?_)
    refine .seq fun _ hK34 => ?_
    refine .sr fun _ hK35 => ?_
    refine .mv rfl ?_
    refine .v (.lenR sl86 rfl (by first | exact rdp | exact .arg (gNi _ (by omega)))) ?_
    refine .mv rfl (.nt hK35 (.block ?_))
    refine AK.loopK (X := Nat) [(2, _), (12, _), (77, _), (78, _)] (fun u => [(79, .int .i64 (u : Int))]) (fun u => [box bx2 25 4 [.int .i64 m.L, .int .i64 m.s, uF, uN], row mv 71 1 m.fin.length x.2, bigA (matG byv 5 x.2 (matR m ts)), mapA mb (mkv sv Value.bool (metS ((matR m ts).take u)))]) (fun u => u ≤ m.fin.length) (fun u => m.fin.length - u) (0) slr ?_ ?_ ?_ ?_
    ·exact Nat.zero_le _
    ·exact slr
    ·exact fun w hw => by rw [show x.1 = ts.length by omega, List.take_length] at hw; exact hw
    ·intro u hg3 _ hK36
     refine .sr fun _ hK37 => ?_
     refine .v (.lss rfl rfl) ?_
     refine .nt hK37 ?_
     refine .seq fun _ hK38 => ?_
     refine AK.condD rfl (fun hc6 => ?_) (fun hc6 => ?_)
     ·refine .skip ?_
      refine AK.then_ (hK38 _ ?_)
      refine .seq fun _ hK39 => ?_
      refine .block ?_
      refine .sr fun _ hK40 => ?_
      first | refine .v (.iN sl86 rfl rfl (hr := (by first | exact rdp | exact .arg (gNi _ (by omega))))) ?_ | refine .v (.iK sl86 rfl rfl (hr := (by first | exact rdp | exact .arg (gNi _ (by omega))))) ?_
      refine .v (.loadV on71 rfl (by first | exact rdp | exact .arg (gNi _ (by omega))) (by omega)) ?_
      refine .as rfl (.nt hK40 ?_)
      refine AK.region ?_
      refine .mv rfl (.mv rfl ?_)
      refine .v (.bytesS (l := (matR m ts).getD u []) sl71.1 un5 un9 rfl (RdS.big 2 _ rfl (matG_get (by rw [hmrl]; exact hx2l) (by rw [hmrl]; omega)))) ?_
      refine AK.mapSet 3 (fk := sv) (fv := Value.bool) (m := metS ((matR m ts).take u)) (a := (matR m ts).getD u []) (v := true) rfl mp87 (keyStr un9) rfl rfl rfl trivial ?_
      refine .nil (.block_normal ?_)
      refine AK.then_ (hK39 _ ?_)
      refine AK.region ?_
      refine .v (.add rfl rfl (by omega)) ?_
      refine .mv rfl (.nil ?_)
      refine AK.then_ (hK36 _ _ (u + 1) (by omega) (by omega) (slr) (fun w hw => by rw [take_snocD [] (matR m ts) u (by rw [hmrl]; omega), ← metS_set]; exact hw))
     ·refine .exit (.then_exit (.then_exit (.block_exit ?_)))
      refine AK.then_ (hK34 _ ?_)
      refine .sr fun _ hK41 => ?_
      refine .mv rfl ?_
      refine .v (.lenM mp87 rfl msp) ?_
      refine .v (.fieldAddr fd25_2 rfl) ?_
      refine .v (.loadBox on22 rfl bsp rfl) ?_
      refine .v (.lenR sl22 rfl (by first | exact rdp | exact .arg (gNi _ (by omega)))) ?_
      refine .v (.eql rfl rfl) ?_
      refine .as rfl (.nt hK41 (.ret ?_))
      refine AK.ret1 rfl rfl (fun w hw => ⟨_, _, ?_, rfl, Ret.of (hw.pick [] (by decide) rfl rfl)⟩)
      have hue : u = m.fin.length := by omega
      have hmsl := metS_len ((matR m ts).take u)
      refine ⟨_, rfl, ?_, rfl⟩
      rw [hue, ← hmrl, List.take_length, decide_eq_true_eq]
      have hmsl2 := metS_len (matR m ts)
      constructor
      ·intro h
       exact ⟨by omega, fun a ha => by obtain ⟨i, hi, e⟩ := mem_getD [] ha; rw [← e]; exact hg0.2.2 i (by omega), rows_diff.1 (by omega)⟩
      ·intro h
       have h2 := rows_diff.2 h.sep
       omega

end Go.Proofs.Ytoikhoniogicdaa
