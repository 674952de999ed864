import Derived.Test.YtoikhoniogicdaaE13
set_option linter.unusedVariables false
set_option linter.unusedSimpArgs false
namespace Go.Proofs.Ytoikhoniogicdaa
open Go.Sx Go.RowKit
def apB (m : Dfa) (ts : List (List UInt8)) (p q : Int) : Bool := ts.any fun w => finQ m (runI m p w) != finQ m (runI m q w)
theorem apB_snoc {m : Dfa} {ts : List (List UInt8)} {p q : Int} {w : List UInt8} : apB m (ts ++ [w]) p q = (apB m ts p q || (finQ m (runI m p w) != finQ m (runI m q w))) := by simp [apB]
theorem apB_iff {m : Dfa} {ts : List (List UInt8)} {p q : Int} : apB m ts p q = false ↔ SameT m ts p q := by
  unfold apB SameT
  rw [List.any_eq_false]
  simp
theorem apB_sep {m : Dfa} {ts : List (List UInt8)} (h : ∀ i, i < m.fin.length → ∀ j, j < i → apB m ts (i : Int) (j : Int) = true) : ∀ p q, InR m p → InR m q → SameT m ts p q → p = q := by
  intro p q hp hq hs
  have hp1 := hp.1
  have hp2 := hp.2
  have hq1 := hq.1
  have hq2 := hq.2
  have ep : ((p.toNat : Nat) : Int) = p := by omega
  have eq : ((q.toNat : Nat) : Int) = q := by omega
  rcases Nat.lt_trichotomy p.toNat q.toNat with h1 | h1 | h1
  · have h2 := h q.toNat (by omega) p.toNat h1
    rw [ep, eq, apB_iff.2 (fun w hw => (hs w hw).symm)] at h2
    cases h2
  · omega
  · have h2 := h p.toNat (by omega) q.toNat h1
    rw [ep, eq, apB_iff.2 hs] at h2
    cases h2
theorem run_of {m : Dfa} (hv : VD m) {q : Nat} (hq : q < m.fin.length) {l : List UInt8} (hl : validW m.L l = true) : RunV m (q : Int) l = runI m (q : Int) l := by
  unfold RunV
  rw [if_pos ⟨(errV_iff m).2 hv, ⟨by omega, by omega⟩, hl⟩]
set_option maxHeartbeats 2000000 in
set_option maxRecDepth 100000 in
theorem s_refcheck (w : World) (v : Value) (d : Dfa) (h : RdD (fun _ => False) w v d) (vm : Value) (m : Dfa) (k : RdD (fun _ => False) w vm m) (vp va vt : Value) (mp : List Int) (ac ts : List (List UInt8)) (hp : RdL (fun _ => False) (Value.int .i64) w vp mp) (ha : RdL (fun _ => False) sv w va ac) (hla : ∀ a ∈ ac, a.length ≤ 9223372036854775807) (ht : RdL (fun _ => False) sv w vt ts) (hlt : ∀ a ∈ ts, a.length ≤ 9223372036854775807) : CallS Try.prog 33 [v, vm, .agg #[vp, va, vt]] w (fun r o => ∃ b, r = .bool b ∧ (b = true ↔ ChkP d m mp ac ts) ∧ o = []) := by
 have h0 := h
 obtain ⟨vF, vN, rfl, hF, hN⟩ := h
 have hF0 := hF
 have hN0 := hN
 obtain ⟨rs, hrl, hNr, hNi⟩ := hN
 have sF := hF.sl
 have sN := hNr.sl
 have hmf := hF.le
 have hmn := hNr.le
 unfold RdL at hF
 have k0 := k
 obtain ⟨uF, uN, rfl, gF, gN⟩ := k
 have gF0 := gF
 have gN0 := gN
 obtain ⟨ss, gsl, gNr, gNi⟩ := gN
 have tF := gF.sl
 have tN := gNr.sl
 have gmf := gF.le
 have gmn := gNr.le
 unfold RdL at gF
 have hp0 := hp
 have ha0 := ha
 have ht0 := ht
 have hps := hp.sl
 have has := ha.sl
 have hts := ht.sl
 have hpl := hp.le
 have hal := ha.le
 have htl := ht.le
 unfold RdL at hp ha ht
 refine spec_of Try.func33 rfl (Nat.le_of_ble_eq_true rfl) ?_
 refine .sr fun _ hK1 => ?_
 refine AK.box_ (E := 25) (cs := [.int .i64 d.L, .int .i64 d.s, vF, vN]) rfl rfl rfl trivial rfl (fun bx3 => ?_)
 refine AK.box_ (E := 25) (cs := [.int .i64 m.L, .int .i64 m.s, uF, uN]) rfl rfl rfl trivial rfl (fun bx4 => ?_)
 refine AK.box_ (E := 51) (cs := [vp, va, vt]) rfl rfl rfl trivial rfl (fun bx5 => ?_)
 refine .as rfl (.nt hK1 ?_)
 refine .sr fun _ hK2 => ?_
 refine .v (.fieldAddr fd25_2 rfl) ?_
 refine .v (.loadBox on22 rfl bsp rfl) ?_
 refine .v (.lenR sl22 rfl (by first | exact rdp | exact .arg (hNi _ (by omega)) | exact .arg (gNi _ (by omega)))) ?_
 refine .as rfl (.nt hK2 ?_)
 refine .seq fun _ hK3 => ?_
 refine .sr fun _ hK4 => ?_
 refine .v (.loadBoxG ag25 rfl bsp rfl rfl) ?_
 refine AK.call co15 rfl (fun w hw => s_refvalidate w _ d (h0.at hw)) trivial rfl ?_
 rintro r o ⟨rfl, rfl⟩
 refine .v (.neq rfl rfl) ?_
 refine .mv rfl ?_
 refine AK.splitB (g := 28) rfl (fun hg_2_3 => ?_) (fun hg_2_3 => ?_)
 ·have hg_2_3' := hg_2_3
  try simp only [bs] at hg_2_3'
  refine AK.pass rfl rfl (hg_2_3) rfl ?_
  refine AK.pass rfl rfl (hg_2_3) rfl ?_
  refine AK.pass rfl rfl (hg_2_3) rfl ?_
  refine .v (.pickT rfl (hg_2_3) rfl) ?_
  refine .mv rfl ?_
  refine AK.pass rfl rfl rfl rfl ?_
  refine AK.pass rfl rfl rfl rfl ?_
  refine AK.pass rfl rfl rfl rfl ?_
  refine AK.pass rfl rfl rfl rfl ?_
  refine AK.pass rfl rfl rfl rfl ?_
  refine .v (.pickT rfl (rfl) rfl) ?_
  refine .mv rfl ?_
  refine AK.pass rfl rfl rfl rfl ?_
  refine AK.pass rfl rfl rfl rfl ?_
  refine AK.pass rfl rfl rfl rfl ?_
  refine AK.pass rfl rfl rfl rfl ?_
  refine AK.pass rfl rfl rfl rfl ?_
  refine AK.pass rfl rfl rfl rfl ?_
  refine AK.pass rfl rfl rfl rfl ?_
  refine .v (.pickT rfl (rfl) rfl) ?_
  refine .mv rfl ?_
  refine AK.pass rfl rfl rfl rfl ?_
  refine AK.pass rfl rfl rfl rfl ?_
  refine AK.pass rfl rfl rfl rfl ?_
  refine AK.pass rfl rfl rfl rfl ?_
  refine AK.pass rfl rfl rfl rfl ?_
  refine .v (.pickT rfl (rfl) rfl) ?_
  refine .mv rfl ?_
  refine AK.pass rfl rfl rfl rfl ?_
  refine AK.pass rfl rfl rfl rfl ?_
  refine AK.pass rfl rfl rfl rfl ?_
  refine AK.pass rfl rfl rfl rfl ?_
  refine AK.pass rfl rfl rfl rfl ?_
  refine AK.pass rfl rfl rfl rfl ?_
  refine .v (.pickT rfl (rfl) rfl) ?_
  refine .nt hK4 ?_
  refine AK.cond_t rfl (rfl) ?_
  refine .sr fun _ hK5 => ?_
  refine .as rfl (.nt hK5 (.ret (.then_ret ?_)))
  refine AK.ret1 rfl rfl (fun w hw => ⟨_, _, ?_, rfl, Ret.of (hw.pick [] (by decide) rfl rfl)⟩)
  refine ⟨false, rfl, ⟨fun h => (by cases h), fun h => ?_⟩, rfl⟩
  exfalso
  have k1 := (errV_iff d).2 h.vd
  have k2 := (errV_iff m).2 h.vm
  have k3 := h.L
  have k4 := h.map.len
  have k5 := h.acc.len
  have k6 := h.tst.len
  first | (simp_all; done) | omega | (simp_all; omega)
 ·have hg_2_3' := hg_2_3
  try simp only [bs] at hg_2_3'
  refine AK.val _ (Yl.loadBoxG ag25 rfl bsp rfl rfl) ⟨_, rfl, congrArg (fun b => some (Value.bool b)) hg_2_3⟩ rfl ?_
  refine AK.call co15 rfl (fun w hw => s_refvalidate w _ m (k0.at hw)) ⟨_, rfl, congrArg (fun b => some (Value.bool b)) hg_2_3⟩ rfl ?_
  rintro r o ⟨rfl, rfl⟩
  refine AK.val _ (Yl.neq rfl rfl) ⟨_, rfl, congrArg (fun b => some (Value.bool b)) hg_2_3⟩ rfl ?_
  refine .v (.pickF rfl (hg_2_3) rfl) ?_
  refine .mv rfl ?_
  refine AK.splitB (g := 33) rfl (fun hg_2_8 => ?_) (fun hg_2_8 => ?_)
  ·have hg_2_8' := hg_2_8
   try simp only [bs] at hg_2_8'
   refine AK.pass rfl rfl (hg_2_8) rfl ?_
   refine AK.pass rfl rfl (hg_2_8) rfl ?_
   refine AK.pass rfl rfl (hg_2_8) rfl ?_
   refine AK.pass rfl rfl (hg_2_8) rfl ?_
   refine AK.pass rfl rfl (hg_2_8) rfl ?_
   refine .v (.pickT rfl (hg_2_8) rfl) ?_
   refine .mv rfl ?_
   refine AK.pass rfl rfl rfl rfl ?_
   refine AK.pass rfl rfl rfl rfl ?_
   refine AK.pass rfl rfl rfl rfl ?_
   refine AK.pass rfl rfl rfl rfl ?_
   refine AK.pass rfl rfl rfl rfl ?_
   refine AK.pass rfl rfl rfl rfl ?_
   refine AK.pass rfl rfl rfl rfl ?_
   refine .v (.pickT rfl (rfl) rfl) ?_
   refine .mv rfl ?_
   refine AK.pass rfl rfl rfl rfl ?_
   refine AK.pass rfl rfl rfl rfl ?_
   refine AK.pass rfl rfl rfl rfl ?_
   refine AK.pass rfl rfl rfl rfl ?_
   refine AK.pass rfl rfl rfl rfl ?_
   refine .v (.pickT rfl (rfl) rfl) ?_
   refine .mv rfl ?_
   refine AK.pass rfl rfl rfl rfl ?_
   refine AK.pass rfl rfl rfl rfl ?_
   refine AK.pass rfl rfl rfl rfl ?_
   refine AK.pass rfl rfl rfl rfl ?_
   refine AK.pass rfl rfl rfl rfl ?_
   refine AK.pass rfl rfl rfl rfl ?_
   refine .v (.pickT rfl (rfl) rfl) ?_
   refine .nt hK4 ?_
   refine AK.cond_t rfl (rfl) ?_
   refine .sr fun _ hK6 => ?_
   refine .as rfl (.nt hK6 (.ret (.then_ret ?_)))
   refine AK.ret1 rfl rfl (fun w hw => ⟨_, _, ?_, rfl, Ret.of (hw.pick [] (by decide) rfl rfl)⟩)
   refine ⟨false, rfl, ⟨fun h => (by cases h), fun h => ?_⟩, rfl⟩
   exfalso
   have k1 := (errV_iff d).2 h.vd
   have k2 := (errV_iff m).2 h.vm
   have k3 := h.L
   have k4 := h.map.len
   have k5 := h.acc.len
   have k6 := h.tst.len
   first | (simp_all; done) | omega | (simp_all; omega)
  ·have hg_2_8' := hg_2_8
   try simp only [bs] at hg_2_8'
   refine AK.val _ (Yl.fieldAddr fd25_0 rfl) ⟨_, rfl, congrArg (fun b => some (Value.bool b)) hg_2_8⟩ rfl ?_
   refine AK.val _ (Yl.loadBox on3 rfl bsp rfl) ⟨_, rfl, congrArg (fun b => some (Value.bool b)) hg_2_8⟩ rfl ?_
   refine AK.val _ (Yl.fieldAddr fd25_0 rfl) ⟨_, rfl, congrArg (fun b => some (Value.bool b)) hg_2_8⟩ rfl ?_
   refine AK.val _ (Yl.loadBox on3 rfl bsp rfl) ⟨_, rfl, congrArg (fun b => some (Value.bool b)) hg_2_8⟩ rfl ?_
   refine AK.val _ (Yl.neq rfl rfl) ⟨_, rfl, congrArg (fun b => some (Value.bool b)) hg_2_8⟩ rfl ?_
   refine .v (.pickF rfl (hg_2_8) rfl) ?_
   refine .mv rfl ?_
   refine AK.splitB (g := 40) rfl (fun hg_2_15 => ?_) (fun hg_2_15 => ?_)
   ·have hg_2_15' := hg_2_15
    try simp only [bs] at hg_2_15'
    refine AK.pass rfl rfl (hg_2_15) rfl ?_
    refine AK.pass rfl rfl (hg_2_15) rfl ?_
    refine AK.pass rfl rfl (hg_2_15) rfl ?_
    refine AK.pass rfl rfl (hg_2_15) rfl ?_
    refine AK.pass rfl rfl (hg_2_15) rfl ?_
    refine AK.pass rfl rfl (hg_2_15) rfl ?_
    refine AK.pass rfl rfl (hg_2_15) rfl ?_
    refine .v (.pickT rfl (hg_2_15) rfl) ?_
    refine .mv rfl ?_
    refine AK.pass rfl rfl rfl rfl ?_
    refine AK.pass rfl rfl rfl rfl ?_
    refine AK.pass rfl rfl rfl rfl ?_
    refine AK.pass rfl rfl rfl rfl ?_
    refine AK.pass rfl rfl rfl rfl ?_
    refine .v (.pickT rfl (rfl) rfl) ?_
    refine .mv rfl ?_
    refine AK.pass rfl rfl rfl rfl ?_
    refine AK.pass rfl rfl rfl rfl ?_
    refine AK.pass rfl rfl rfl rfl ?_
    refine AK.pass rfl rfl rfl rfl ?_
    refine AK.pass rfl rfl rfl rfl ?_
    refine AK.pass rfl rfl rfl rfl ?_
    refine .v (.pickT rfl (rfl) rfl) ?_
    refine .nt hK4 ?_
    refine AK.cond_t rfl (rfl) ?_
    refine .sr fun _ hK7 => ?_
    refine .as rfl (.nt hK7 (.ret (.then_ret ?_)))
    refine AK.ret1 rfl rfl (fun w hw => ⟨_, _, ?_, rfl, Ret.of (hw.pick [] (by decide) rfl rfl)⟩)
    refine ⟨false, rfl, ⟨fun h => (by cases h), fun h => ?_⟩, rfl⟩
    exfalso
    have k1 := (errV_iff d).2 h.vd
    have k2 := (errV_iff m).2 h.vm
    have k3 := h.L
    have k4 := h.map.len
    have k5 := h.acc.len
    have k6 := h.tst.len
    first | (simp_all; done) | omega | (simp_all; omega)
   ·have hg_2_15' := hg_2_15
    try simp only [bs] at hg_2_15'
    refine AK.val _ (Yl.fieldAddr fd51_0 rfl) ⟨_, rfl, congrArg (fun b => some (Value.bool b)) hg_2_15⟩ rfl ?_
    refine AK.val _ (Yl.loadBox on26 rfl bsp rfl) ⟨_, rfl, congrArg (fun b => some (Value.bool b)) hg_2_15⟩ rfl ?_
    refine AK.val _ (Yl.lenR sl26 rfl (by first | exact rdp | exact .arg (hNi _ (by omega)) | exact .arg (gNi _ (by omega)))) ⟨_, rfl, congrArg (fun b => some (Value.bool b)) hg_2_15⟩ rfl ?_
    refine AK.val _ (Yl.fieldAddr fd25_2 rfl) ⟨_, rfl, congrArg (fun b => some (Value.bool b)) hg_2_15⟩ rfl ?_
    refine AK.val _ (Yl.loadBox on22 rfl bsp rfl) ⟨_, rfl, congrArg (fun b => some (Value.bool b)) hg_2_15⟩ rfl ?_
    refine AK.val _ (Yl.lenR sl22 rfl (by first | exact rdp | exact .arg (hNi _ (by omega)) | exact .arg (gNi _ (by omega)))) ⟨_, rfl, congrArg (fun b => some (Value.bool b)) hg_2_15⟩ rfl ?_
    refine AK.val _ (Yl.neq rfl rfl) ⟨_, rfl, congrArg (fun b => some (Value.bool b)) hg_2_15⟩ rfl ?_
    refine .v (.pickF rfl (hg_2_15) rfl) ?_
    refine .mv rfl ?_
    refine AK.splitB (g := 49) rfl (fun hg_2_24 => ?_) (fun hg_2_24 => ?_)
    ·have hg_2_24' := hg_2_24
     try simp only [bs] at hg_2_24'
     refine AK.pass rfl rfl (hg_2_24) rfl ?_
     refine AK.pass rfl rfl (hg_2_24) rfl ?_
     refine AK.pass rfl rfl (hg_2_24) rfl ?_
     refine AK.pass rfl rfl (hg_2_24) rfl ?_
     refine AK.pass rfl rfl (hg_2_24) rfl ?_
     refine .v (.pickT rfl (hg_2_24) rfl) ?_
     refine .mv rfl ?_
     refine AK.pass rfl rfl rfl rfl ?_
     refine AK.pass rfl rfl rfl rfl ?_
     refine AK.pass rfl rfl rfl rfl ?_
     refine AK.pass rfl rfl rfl rfl ?_
     refine AK.pass rfl rfl rfl rfl ?_
     refine AK.pass rfl rfl rfl rfl ?_
     refine .v (.pickT rfl (rfl) rfl) ?_
     refine .nt hK4 ?_
     refine AK.cond_t rfl (rfl) ?_
     refine .sr fun _ hK8 => ?_
     refine .as rfl (.nt hK8 (.ret (.then_ret ?_)))
     refine AK.ret1 rfl rfl (fun w hw => ⟨_, _, ?_, rfl, Ret.of (hw.pick [] (by decide) rfl rfl)⟩)
     refine ⟨false, rfl, ⟨fun h => (by cases h), fun h => ?_⟩, rfl⟩
     exfalso
     have k1 := (errV_iff d).2 h.vd
     have k2 := (errV_iff m).2 h.vm
     have k3 := h.L
     have k4 := h.map.len
     have k5 := h.acc.len
     have k6 := h.tst.len
     first | (simp_all; done) | omega | (simp_all; omega)
    ·have hg_2_24' := hg_2_24
     try simp only [bs] at hg_2_24'
     refine AK.val _ (Yl.fieldAddr fd51_1 rfl) ⟨_, rfl, congrArg (fun b => some (Value.bool b)) hg_2_24⟩ rfl ?_
     refine AK.val _ (Yl.loadBox on49 rfl bsp rfl) ⟨_, rfl, congrArg (fun b => some (Value.bool b)) hg_2_24⟩ rfl ?_
     refine AK.val _ (Yl.lenR sl49 rfl (by first | exact rdp | exact .arg (hNi _ (by omega)) | exact .arg (gNi _ (by omega)))) ⟨_, rfl, congrArg (fun b => some (Value.bool b)) hg_2_24⟩ rfl ?_
     refine AK.val _ (Yl.move rfl) ⟨_, rfl, congrArg (fun b => some (Value.bool b)) hg_2_24⟩ rfl ?_
     refine AK.val _ (Yl.neq rfl rfl) ⟨_, rfl, congrArg (fun b => some (Value.bool b)) hg_2_24⟩ rfl ?_
     refine .v (.pickF rfl (hg_2_24) rfl) ?_
     refine .mv rfl ?_
     refine AK.splitB (g := 56) rfl (fun hg_2_31 => ?_) (fun hg_2_31 => ?_)
     ·have hg_2_31' := hg_2_31
      try simp only [bs] at hg_2_31'
      refine AK.pass rfl rfl (hg_2_31) rfl ?_
      refine AK.pass rfl rfl (hg_2_31) rfl ?_
      refine AK.pass rfl rfl (hg_2_31) rfl ?_
      refine AK.pass rfl rfl (hg_2_31) rfl ?_
      refine AK.pass rfl rfl (hg_2_31) rfl ?_
      refine AK.pass rfl rfl (hg_2_31) rfl ?_
      refine .v (.pickT rfl (hg_2_31) rfl) ?_
      refine .nt hK4 ?_
      refine AK.cond_t rfl (rfl) ?_
      refine .sr fun _ hK9 => ?_
      refine .as rfl (.nt hK9 (.ret (.then_ret ?_)))
      refine AK.ret1 rfl rfl (fun w hw => ⟨_, _, ?_, rfl, Ret.of (hw.pick [] (by decide) rfl rfl)⟩)
      refine ⟨false, rfl, ⟨fun h => (by cases h), fun h => ?_⟩, rfl⟩
      exfalso
      have k1 := (errV_iff d).2 h.vd
      have k2 := (errV_iff m).2 h.vm
      have k3 := h.L
      have k4 := h.map.len
      have k5 := h.acc.len
      have k6 := h.tst.len
      first | (simp_all; done) | omega | (simp_all; omega)
     ·have hg_2_31' := hg_2_31
      try simp only [bs] at hg_2_31'
      refine AK.val _ (Yl.fieldAddr fd51_2 rfl) ⟨_, rfl, congrArg (fun b => some (Value.bool b)) hg_2_31⟩ rfl ?_
      refine AK.val _ (Yl.loadBox on49 rfl bsp rfl) ⟨_, rfl, congrArg (fun b => some (Value.bool b)) hg_2_31⟩ rfl ?_
      refine AK.val _ (Yl.lenR sl49 rfl (by first | exact rdp | exact .arg (hNi _ (by omega)) | exact .arg (gNi _ (by omega)))) ⟨_, rfl, congrArg (fun b => some (Value.bool b)) hg_2_31⟩ rfl ?_
      refine AK.val _ (Yl.move rfl) ⟨_, rfl, congrArg (fun b => some (Value.bool b)) hg_2_31⟩ rfl ?_
      refine AK.val _ (Yl.sub rfl rfl (by omega)) ⟨_, rfl, congrArg (fun b => some (Value.bool b)) hg_2_31⟩ rfl ?_
      refine AK.val _ (Yl.gtr rfl rfl) ⟨_, rfl, congrArg (fun b => some (Value.bool b)) hg_2_31⟩ rfl ?_
      refine .v (.pickF rfl (hg_2_31) rfl) ?_
      refine .nt hK4 ?_
      refine AK.condD rfl (fun hc0 => ?_) (fun hc0 => ?_)
      ·refine .sr fun _ hK10 => ?_
       refine .as rfl (.nt hK10 (.ret (.then_ret ?_)))
       refine AK.ret1 rfl rfl (fun w hw => ⟨_, _, ?_, rfl, Ret.of (hw.pick [] (by decide) rfl rfl)⟩)
       refine ⟨false, rfl, ⟨fun h => (by cases h), fun h => ?_⟩, rfl⟩
       exfalso
       have k1 := (errV_iff d).2 h.vd
       have k2 := (errV_iff m).2 h.vm
       have k3 := h.L
       have k4 := h.map.len
       have k5 := h.acc.len
       have k6 := h.tst.len
       first | (simp_all; done) | omega | (simp_all; omega)
      ·have hv : VD d := (errV_iff d).1 (by simpa using hg_2_3')
       have hvm : VD m := (errV_iff m).1 (by simpa using hg_2_8')
       have hLL : d.L = m.L := by simpa using hg_2_15'
       have hml : mp.length = d.fin.length := by omega
       have hal1 : ac.length = m.fin.length := by omega
       have htl1 : ts.length + 1 ≤ m.fin.length := by omega
       have hdL := hv.L
       have hdnx := hv.nx
       have hdn := hv.n
       have hds := hv.s
       have hmL := hvm.L
       have hmnx := hvm.nx
       have hmn5 := hvm.n
       have hms := hvm.s
       refine .skip ?_
       refine AK.then_ (hK3 _ ?_)
       refine .seq fun _ hK11 => ?_
       refine .sr fun _ hK12 => ?_
       refine .v (.fieldAddr fd51_0 rfl) ?_
       refine .v (.loadBox on26 rfl bsp rfl) ?_
       refine .v (.lenR sl26 rfl (by first | exact rdp | exact .arg (hNi _ (by omega)) | exact .arg (gNi _ (by omega)))) ?_
       refine .mv rfl (.nt hK12 (.block ?_))
       refine AK.loopK (X := Nat) [(3, _), (4, _), (5, _), (7, _), (65, _), (66, _)] (fun j => [(67, .int .i64 (j : Int))]) (fun j => [box bx3 25 4 [.int .i64 d.L, .int .i64 d.s, vF, vN], box bx4 25 4 [.int .i64 m.L, .int .i64 m.s, uF, uN], box bx5 51 3 [vp, va, vt]]) (fun j => j ≤ mp.length ∧ ∀ i, i < j → -1 ≤ mp.getD i 0 ∧ mp.getD i 0 < m.fin.length) (fun j => mp.length - j) (0) slr ?_ ?_ ?_ ?_
       ·exact ⟨Nat.zero_le _, fun i hi => (by cases hi)⟩
       ·exact slr
       ·exact fun w hw => hw
       ·intro j hg0 _ hK13
        refine .sr fun _ hK14 => ?_
        refine .v (.lss rfl rfl) ?_
        refine .nt hK14 ?_
        refine .seq fun _ hK15 => ?_
        refine AK.condD rfl (fun hc1 => ?_) (fun hc1 => ?_)
        ·refine .skip ?_
         refine AK.then_ (hK15 _ ?_)
         refine .seq fun _ hK16 => ?_
         refine .block ?_
         refine .sr fun _ hK17 => ?_
         first | refine .v (.iN sl26 rfl rfl (hr := (by first | exact rdp | exact .arg (hNi _ (by omega)) | exact .arg (gNi _ (by omega))))) ?_ | refine .v (.iK sl26 rfl rfl (hr := (by first | exact rdp | exact .arg (hNi _ (by omega)) | exact .arg (gNi _ (by omega))))) ?_
         refine .v (.loadI on3 rfl (by first | exact rdp | exact .arg (hNi _ (by omega)) | exact .arg (gNi _ (by omega))) (by omega)) ?_
         refine .as rfl (.nt hK17 ?_)
         refine .sr fun _ hK18 => ?_
         refine .mv rfl ?_
         refine .v (.lss rfl rfl) ?_
         refine .mv rfl ?_
         refine AK.splitB (g := 73) rfl (fun hg_7_2 => ?_) (fun hg_7_2 => ?_)
         ·have hg_7_2' := hg_7_2
          try simp only [bs] at hg_7_2'
          refine AK.pass rfl rfl (hg_7_2) rfl ?_
          refine AK.pass rfl rfl (hg_7_2) rfl ?_
          refine AK.pass rfl rfl (hg_7_2) rfl ?_
          refine .v (.pickT rfl (hg_7_2) rfl) ?_
          refine .nt hK18 ?_
          refine AK.cond_t rfl (rfl) ?_
          refine .sr fun _ hK19 => ?_
          refine .as rfl (.nt hK19 (.ret (.block_ret (.then_ret (.then_ret (.block_ret (.then_ret ?_)))))))
          refine AK.ret1 rfl rfl (fun w hw => ⟨_, _, ?_, rfl, Ret.of (hw.pick [] (by decide) rfl rfl)⟩)
          refine ⟨false, rfl, ⟨fun h => (by cases h), fun h => ?_⟩, rfl⟩
          exfalso
          have h1 := h.map.bd j (by omega)
          omega
         ·have hg_7_2' := hg_7_2
          try simp only [bs] at hg_7_2'
          refine AK.val _ (Yl.move rfl) ⟨_, rfl, congrArg (fun b => some (Value.bool b)) hg_7_2⟩ rfl ?_
          refine AK.val _ (Yl.move rfl) ⟨_, rfl, congrArg (fun b => some (Value.bool b)) hg_7_2⟩ rfl ?_
          refine AK.val _ (Yl.geq rfl rfl) ⟨_, rfl, congrArg (fun b => some (Value.bool b)) hg_7_2⟩ rfl ?_
          refine .v (.pickF rfl (hg_7_2) rfl) ?_
          refine .nt hK18 ?_
          refine AK.condD rfl (fun hc2 => ?_) (fun hc2 => ?_)
          ·refine .sr fun _ hK20 => ?_
           refine .as rfl (.nt hK20 (.ret (.block_ret (.then_ret (.then_ret (.block_ret (.then_ret ?_)))))))
           refine AK.ret1 rfl rfl (fun w hw => ⟨_, _, ?_, rfl, Ret.of (hw.pick [] (by decide) rfl rfl)⟩)
           refine ⟨false, rfl, ⟨fun h => (by cases h), fun h => ?_⟩, rfl⟩
           exfalso
           have h1 := h.map.bd j (by omega)
           omega
          ·refine .skip (.block_normal ?_)
           refine AK.then_ (hK16 _ ?_)
           refine AK.region ?_
           refine .v (.add rfl rfl (by omega)) ?_
           refine .mv rfl (.nil ?_)
           refine AK.then_ (hK13 _ _ (j + 1) ⟨by omega, all_succ hg0.2 (by omega)⟩ (by omega) (slr) (fun w hw => hw))
        ·have hbd : ∀ i, i < mp.length → -1 ≤ mp.getD i 0 ∧ mp.getD i 0 < m.fin.length := fun i hi => hg0.2 i (by omega)
         refine .exit (.then_exit (.then_exit (.block_exit ?_)))
         refine AK.then_ (hK11 _ ?_)
         refine .seq fun _ hK21 => ?_
         refine .seq fun _ hK22 => ?_
         refine AK.quiet mixed krf ?_
         refine .v (.fieldAddr fd51_0 rfl) ?_
         refine .v (.loadBox on26 rfl bsp rfl) ?_
         refine .v (.fieldAddr fd25_1 rfl) ?_
         refine .v (.loadBox on3 rfl bsp rfl) ?_
         first | refine .v (.iN sl26 rfl rfl (hr := (by first | exact rdp | exact .arg (hNi _ (by omega)) | exact .arg (gNi _ (by omega))))) ?_ | refine .v (.iK sl26 rfl rfl (hr := (by first | exact rdp | exact .arg (hNi _ (by omega)) | exact .arg (gNi _ (by omega))))) ?_
         refine .v (.loadI on3 rfl (by first | exact rdp | exact .arg (hNi _ (by omega)) | exact .arg (gNi _ (by omega))) (by omega)) ?_
         refine .v (.fieldAddr fd25_1 rfl) ?_
         refine .v (.loadBox on3 rfl bsp rfl) ?_
         refine .v (.neq rfl rfl) ?_
         refine QK.nil (QK.fin ?_)
         refine AK.then_ (hK22 _ ?_)
         refine AK.condNe rfl (fun hc3 => ?_) (fun hc3 => ?_)
         ·refine .sr fun _ hK23 => ?_
          refine .as rfl (.nt hK23 (.ret (.then_ret ?_)))
          refine AK.ret1 rfl rfl (fun w hw => ⟨_, _, ?_, rfl, Ret.of (hw.pick [] (by decide) rfl rfl)⟩)
          refine ⟨false, rfl, ⟨fun h => (by cases h), fun h => ?_⟩, rfl⟩
          exfalso
          have h2 := h.map.st
          first | omega | exact hc3 h2
         ·have hst0 : mp.getD d.s.toNat 0 = m.s := by first | exact hc3 | exact Classical.not_not.1 hc3 | omega
          refine .skip ?_
          refine AK.then_ (hK21 _ ?_)
          refine .seq fun _ hK24 => ?_
          refine .sr fun _ hK25 => ?_
          refine .v (.fieldAddr fd51_0 rfl) ?_
          refine .v (.loadBox on26 rfl bsp rfl) ?_
          refine .v (.lenR sl26 rfl (by first | exact rdp | exact .arg (hNi _ (by omega)) | exact .arg (gNi _ (by omega)))) ?_
          refine .mv rfl (.nt hK25 (.block ?_))
          refine AK.loopK (X := Nat) [(3, _), (4, _), (5, _), (7, _), (89, _), (90, _)] (fun q => [(91, .int .i64 (q : Int))]) (fun q => [box bx3 25 4 [.int .i64 d.L, .int .i64 d.s, vF, vN], box bx4 25 4 [.int .i64 m.L, .int .i64 m.s, uF, uN], box bx5 51 3 [vp, va, vt]]) (fun q => q ≤ mp.length ∧ ∀ i, i < q → HomAt d m mp i) (fun q => mp.length - q) (0) slr ?_ ?_ ?_ ?_
          ·exact ⟨Nat.zero_le _, fun i hi => (by cases hi)⟩
          ·exact slr
          ·exact fun w hw => hw
          ·intro q hg1 _ hK26
           refine .sr fun _ hK27 => ?_
           refine .v (.lss rfl rfl) ?_
           refine .nt hK27 ?_
           refine .seq fun _ hK28 => ?_
           refine AK.condD rfl (fun hc4 => ?_) (fun hc4 => ?_)
           ·have hqn : q < d.fin.length := by omega
            have hrw := hv.row q hqn
            have hbq := hbd q (by omega)
            refine .skip ?_
            refine AK.then_ (hK28 _ ?_)
            refine .seq fun _ hK29 => ?_
            refine .block ?_
            refine .sr fun _ hK30 => ?_
            refine .mv rfl ?_
            first | refine .v (.iN sl26 rfl rfl (hr := (by first | exact rdp | exact .arg (hNi _ (by omega)) | exact .arg (gNi _ (by omega))))) ?_ | refine .v (.iK sl26 rfl rfl (hr := (by first | exact rdp | exact .arg (hNi _ (by omega)) | exact .arg (gNi _ (by omega))))) ?_
            refine .v (.loadI on3 rfl (by first | exact rdp | exact .arg (hNi _ (by omega)) | exact .arg (gNi _ (by omega))) (by omega)) ?_
            refine .as rfl (.as rfl (.nt hK30 ?_))
            refine .seq fun _ hK31 => ?_
            refine .sr fun _ hK32 => ?_
            refine .mv rfl ?_
            refine .v (.lss rfl rfl) ?_
            refine .nt hK32 ?_
            refine AK.condD rfl (fun hc5 => ?_) (fun hc5 => ?_)
            ·refine .exit (.then_exit (.block_exit ?_))
             refine AK.then_ (hK29 _ ?_)
             refine AK.region ?_
             refine .v (.add rfl rfl (by omega)) ?_
             refine .mv rfl (.nil ?_)
             first | refine AK.then_ (hK26 _ _ (q + 1) ⟨by omega, all_succ hg1.2 (fun h0 => by omega)⟩ (by omega) (slr) (fun w hw => hw)) | refine AK.then_ (hK26 _ _ (q + 1) ⟨by omega, all_succ hg1.2 (fun _ => ⟨hfe, fun x hx => hg2.2 x (by omega)⟩)⟩ (by omega) (slr) (fun w hw => hw))
            ·refine .skip ?_
             refine AK.then_ (hK31 _ ?_)
             refine .seq fun _ hK33 => ?_
             refine .seq fun _ hK34 => ?_
             refine AK.quiet mixed krf ?_
             refine .v (.fieldAddr fd25_2 rfl) ?_
             refine .v (.loadBox on22 rfl bsp rfl) ?_
             refine .mv rfl ?_
             first | refine .v (.iN sl22 rfl rfl (hr := (by first | exact rdp | exact .arg (hNi _ (by omega)) | exact .arg (gNi _ (by omega))))) ?_ | refine .v (.iK sl22 rfl rfl (hr := (by first | exact rdp | exact .arg (hNi _ (by omega)) | exact .arg (gNi _ (by omega))))) ?_
             refine .v (.loadB on4 rfl (by first | exact rdp | exact .arg (hNi _ (by omega)) | exact .arg (gNi _ (by omega))) (by omega)) ?_
             refine .v (.fieldAddr fd25_2 rfl) ?_
             refine .v (.loadBox on22 rfl bsp rfl) ?_
             refine .mv rfl ?_
             first | refine .v (.iN sl22 rfl rfl (hr := (by first | exact rdp | exact .arg (hNi _ (by omega)) | exact .arg (gNi _ (by omega))))) ?_ | refine .v (.iK sl22 rfl rfl (hr := (by first | exact rdp | exact .arg (hNi _ (by omega)) | exact .arg (gNi _ (by omega))))) ?_
             refine .v (.loadB on4 rfl (by first | exact rdp | exact .arg (hNi _ (by omega)) | exact .arg (gNi _ (by omega))) (by omega)) ?_
             refine .v (.neqB bo4 rfl rfl) ?_
             refine QK.nil (QK.fin ?_)
             refine AK.then_ (hK34 _ ?_)
             refine AK.cond rfl (fun hc6 => ?_) (fun hc6 => ?_)
             ·try simp only [bs] at hc6
              refine .sr fun _ hK35 => ?_
              refine .as rfl (.nt hK35 (.ret (.then_ret (.block_ret (.then_ret (.then_ret (.block_ret (.then_ret ?_))))))))
              refine AK.ret1 rfl rfl (fun w hw => ⟨_, _, ?_, rfl, Ret.of (hw.pick [] (by decide) rfl rfl)⟩)
              refine ⟨false, rfl, ⟨fun h => (by cases h), fun h => ?_⟩, rfl⟩
              exfalso
              have h1 := (h.map.at hqn (by omega)).1
              unfold finQ at h1
              rw [Int.toNat_natCast] at h1
              first | (simp [h1] at hc6; done) | (rw [h1] at hc6; simp at hc6)
             ·try simp only [bs] at hc6
              have hfe : finQ d (q : Int) = finQ m (mp.getD q 0) := by unfold finQ; rw [Int.toNat_natCast]; simpa using hc6
              have hrm := hvm.row (mp.getD q 0).toNat (by omega)
              refine .skip ?_
              refine AK.then_ (hK33 _ ?_)
              refine .sr fun _ hK36 => ?_
              refine .as rfl (.nt hK36 (.block ?_))
              refine AK.loopK (X := Nat) [(3, _), (4, _), (5, _), (7, _), (10, _), (11, _), (89, _), (90, _), (91, _)] (fun x => [(12, .int .i64 (x : Int))]) (fun x => [box bx3 25 4 [.int .i64 d.L, .int .i64 d.s, vF, vN], box bx4 25 4 [.int .i64 m.L, .int .i64 m.s, uF, uN], box bx5 51 3 [vp, va, vt]]) (fun x => (x : Int) ≤ d.L ∧ ∀ y, y < x → StepAt d m mp q y) (fun x => d.L.toNat - x) (0) slr ?_ ?_ ?_ ?_
              ·exact ⟨by omega, fun i hi => (by cases hi)⟩
              ·exact slr
              ·exact fun w hw => hw
              ·intro x hg2 _ hK37
               refine .seq fun _ hK38 => ?_
               refine .sr fun _ hK39 => ?_
               refine .mv rfl ?_
               refine .v (.fieldAddr fd25_0 rfl) ?_
               refine .v (.loadBox on3 rfl bsp rfl) ?_
               refine .v (.lss rfl rfl) ?_
               refine .nt hK39 ?_
               refine AK.condD rfl (fun hc7 => ?_) (fun hc7 => ?_)
               ·have hto := hv.to q x hqn (by omega)
                refine .skip ?_
                refine AK.then_ (hK38 _ ?_)
                refine .seq fun _ hK40 => ?_
                refine .block ?_
                refine .seq fun _ hK41 => ?_
                refine AK.quiet mixed krf ?_
                refine .v (.fieldAddr fd51_0 rfl) ?_
                refine .v (.loadBox on26 rfl bsp rfl) ?_
                refine .v (.fieldAddr fd25_3 rfl) ?_
                refine .v (.loadBox on23 rfl bsp rfl) ?_
                refine .mv rfl ?_
                first | refine .v (.iN sl23 rfl rfl (hr := (by first | exact rdp | exact .arg (hNi _ (by omega)) | exact .arg (gNi _ (by omega))))) ?_ | refine .v (.iK sl23 rfl rfl (hr := (by first | exact rdp | exact .arg (hNi _ (by omega)) | exact .arg (gNi _ (by omega))))) ?_
                refine .v (.loadV on26 rfl (by first | exact rdp | exact .arg (hNi _ (by omega)) | exact .arg (gNi _ (by omega))) (by omega)) ?_
                refine .mv rfl ?_
                first | refine .v (.iN sl26 rfl rfl (hr := (by first | exact rdp | exact .arg (hNi _ (by omega)) | exact .arg (gNi _ (by omega))))) ?_ | refine .v (.iK sl26 rfl rfl (hr := (by first | exact rdp | exact .arg (hNi _ (by omega)) | exact .arg (gNi _ (by omega))))) ?_
                refine .v (.loadI on3 rfl (by first | exact rdp | exact .arg (hNi _ (by omega)) | exact .arg (gNi _ (by omega))) (by omega)) ?_
                first | refine .v (.iN sl26 rfl rfl (hr := (by first | exact rdp | exact .arg (hNi _ (by omega)) | exact .arg (gNi _ (by omega))))) ?_ | refine .v (.iK sl26 rfl rfl (hr := (by first | exact rdp | exact .arg (hNi _ (by omega)) | exact .arg (gNi _ (by omega))))) ?_
                refine .v (.loadI on3 rfl (by first | exact rdp | exact .arg (hNi _ (by omega)) | exact .arg (gNi _ (by omega))) (by omega)) ?_
                refine .v (.fieldAddr fd25_3 rfl) ?_
                refine .v (.loadBox on23 rfl bsp rfl) ?_
                refine .mv rfl ?_
                first | refine .v (.iN sl23 rfl rfl (hr := (by first | exact rdp | exact .arg (hNi _ (by omega)) | exact .arg (gNi _ (by omega))))) ?_ | refine .v (.iK sl23 rfl rfl (hr := (by first | exact rdp | exact .arg (hNi _ (by omega)) | exact .arg (gNi _ (by omega))))) ?_
                refine .v (.loadV on26 rfl (by first | exact rdp | exact .arg (hNi _ (by omega)) | exact .arg (gNi _ (by omega))) (by omega)) ?_
                refine .mv rfl ?_
                first | refine .v (.iN sl26 rfl rfl (hr := (by first | exact rdp | exact .arg (hNi _ (by omega)) | exact .arg (gNi _ (by omega))))) ?_ | refine .v (.iK sl26 rfl rfl (hr := (by first | exact rdp | exact .arg (hNi _ (by omega)) | exact .arg (gNi _ (by omega))))) ?_
                refine .v (.loadI on3 rfl (by first | exact rdp | exact .arg (hNi _ (by omega)) | exact .arg (gNi _ (by omega))) (by omega)) ?_
                refine .v (.neq rfl rfl) ?_
                refine QK.nil (QK.fin ?_)
                refine AK.then_ (hK41 _ ?_)
                refine AK.condNe rfl (fun hc8 => ?_) (fun hc8 => ?_)
                ·refine .sr fun _ hK42 => ?_
                 refine .as rfl (.nt hK42 (.ret (.block_ret (.then_ret (.then_ret (.block_ret (.block_ret (.then_ret (.then_ret (.block_ret (.then_ret ?_)))))))))))
                 refine AK.ret1 rfl rfl (fun w hw => ⟨_, _, ?_, rfl, Ret.of (hw.pick [] (by decide) rfl rfl)⟩)
                 refine ⟨false, rfl, ⟨fun h => (by cases h), fun h => ?_⟩, rfl⟩
                 exfalso
                 exact hc8 ((h.map.at hqn (by omega)).2 x (by omega))
                ·have hst : StepAt d m mp q x := hc8
                 refine .skip (.block_normal ?_)
                 refine AK.then_ (hK40 _ ?_)
                 refine AK.region ?_
                 refine .mv rfl ?_
                 refine .v (.add rfl rfl (by omega)) ?_
                 refine .as rfl (.nil ?_)
                 refine AK.then_ (hK37 _ _ (x + 1) ⟨by omega, all_succ hg2.2 hst⟩ (by omega) (slr) (fun w hw => hw))
               ·refine .exit (.then_exit (.then_exit (.block_exit (.block_normal ?_))))
                refine AK.then_ (hK29 _ ?_)
                refine AK.region ?_
                refine .v (.add rfl rfl (by omega)) ?_
                refine .mv rfl (.nil ?_)
                first | refine AK.then_ (hK26 _ _ (q + 1) ⟨by omega, all_succ hg1.2 (fun h0 => by omega)⟩ (by omega) (slr) (fun w hw => hw)) | refine AK.then_ (hK26 _ _ (q + 1) ⟨by omega, all_succ hg1.2 (fun _ => ⟨hfe, fun x hx => hg2.2 x (by omega)⟩)⟩ (by omega) (slr) (fun w hw => hw))
           ·refine .exit (.then_exit (.then_exit (.block_exit ?_)))
            refine AK.then_ (hK24 _ ?_)
            refine .seq fun _ hK43 => ?_
            refine .sr fun _ hK44 => ?_
            refine .v (.fieldAddr fd51_1 rfl) ?_
            refine .v (.loadBox on49 rfl bsp rfl) ?_
            refine .v (.lenR sl49 rfl (by first | exact rdp | exact .arg (hNi _ (by omega)) | exact .arg (gNi _ (by omega)))) ?_
            refine .mv rfl (.nt hK44 (.block ?_))
            refine AK.loopK (X := Nat) [(4, _), (5, _), (7, _), (138, _), (139, _)] (fun j => [(140, .int .i64 (j : Int))]) (fun j => [box bx3 25 4 [.int .i64 d.L, .int .i64 d.s, vF, vN], box bx4 25 4 [.int .i64 m.L, .int .i64 m.s, uF, uN], box bx5 51 3 [vp, va, vt]]) (fun j => j ≤ ac.length ∧ ∀ i, i < j → RunV m m.s (ac.getD i []) = (i : Int)) (fun j => ac.length - j) (0) slr ?_ ?_ ?_ ?_
            ·exact ⟨Nat.zero_le _, fun i hi => (by cases hi)⟩
            ·exact slr
            ·exact fun w hw => hw
            ·intro j hg3 _ hK45
             refine .sr fun _ hK46 => ?_
             refine .v (.lss rfl rfl) ?_
             refine .nt hK46 ?_
             refine .seq fun _ hK47 => ?_
             refine AK.condD rfl (fun hc9 => ?_) (fun hc9 => ?_)
             ·refine .skip ?_
              refine AK.then_ (hK47 _ ?_)
              refine .seq fun _ hK48 => ?_
              refine .block ?_
              refine .sr fun _ hK49 => ?_
              refine .mv rfl ?_
              first | refine .v (.iN sl49 rfl rfl (hr := (by first | exact rdp | exact .arg (hNi _ (by omega)) | exact .arg (gNi _ (by omega))))) ?_ | refine .v (.iK sl49 rfl rfl (hr := (by first | exact rdp | exact .arg (hNi _ (by omega)) | exact .arg (gNi _ (by omega))))) ?_
              refine .v (.loadS on9 rfl (by first | exact rdp | exact .arg (hNi _ (by omega)) | exact .arg (gNi _ (by omega))) (by omega)) ?_
              refine .as rfl (.as rfl (.nt hK49 ?_))
              refine .sr fun _ hK50 => ?_
              refine .v (.loadBoxG ag25 rfl bsp rfl rfl) ?_
              refine .v (.fieldAddr fd25_1 rfl) ?_
              refine .v (.loadBox on3 rfl bsp rfl) ?_
              refine .mv rfl ?_
              refine AK.call co49 rfl (fun w hw => s_refrun w _ m (k0.at hw) m.s (ac.getD j []) (hla _ (getD_mem (by omega))) hvm) trivial rfl ?_
              rintro r o ⟨rfl, rfl⟩
              refine .mv rfl ?_
              refine .v (.neq rfl rfl) ?_
              refine .nt hK50 ?_
              refine AK.condNe rfl (fun hc10 => ?_) (fun hc10 => ?_)
              ·refine .sr fun _ hK51 => ?_
               refine .as rfl (.nt hK51 (.ret (.block_ret (.then_ret (.then_ret (.block_ret (.then_ret ?_)))))))
               refine AK.ret1 rfl rfl (fun w hw => ⟨_, _, ?_, rfl, Ret.of (hw.pick [] (by decide) rfl rfl)⟩)
               refine ⟨false, rfl, ⟨fun h => (by cases h), fun h => ?_⟩, rfl⟩
               exfalso
               exact hc10 (h.acc.run j (by omega))
              ·refine .skip (.block_normal ?_)
               refine AK.then_ (hK48 _ ?_)
               refine AK.region ?_
               refine .v (.add rfl rfl (by omega)) ?_
               refine .mv rfl (.nil ?_)
               refine AK.then_ (hK45 _ _ (j + 1) ⟨by omega, all_succ hg3.2 (by first | exact hc10 | exact Classical.not_not.1 hc10)⟩ (by omega) (slr) (fun w hw => hw))
             ·refine .exit (.then_exit (.then_exit (.block_exit ?_)))
              refine AK.then_ (hK43 _ ?_)
              refine .seq fun _ hK52 => ?_
              refine .sr fun _ hK53 => ?_
              refine .v (.fieldAddr fd51_2 rfl) ?_
              refine .v (.loadBox on49 rfl bsp rfl) ?_
              refine .v (.lenR sl49 rfl (by first | exact rdp | exact .arg (hNi _ (by omega)) | exact .arg (gNi _ (by omega)))) ?_
              refine .mv rfl (.nt hK53 (.block ?_))
              refine AK.loopK (X := Nat) [(4, _), (5, _), (7, _), (154, _), (155, _)] (fun j => [(156, .int .i64 (j : Int))]) (fun j => [box bx3 25 4 [.int .i64 d.L, .int .i64 d.s, vF, vN], box bx4 25 4 [.int .i64 m.L, .int .i64 m.s, uF, uN], box bx5 51 3 [vp, va, vt]]) (fun j => j ≤ ts.length ∧ ∀ i, i < j → validW m.L (ts.getD i []) = true) (fun j => ts.length - j) (0) slr ?_ ?_ ?_ ?_
              ·exact ⟨Nat.zero_le _, fun i hi => (by cases hi)⟩
              ·exact slr
              ·exact fun w hw => hw
              ·intro j hg4 _ hK54
               refine .sr fun _ hK55 => ?_
               refine .v (.lss rfl rfl) ?_
               refine .nt hK55 ?_
               refine .seq fun _ hK56 => ?_
               refine AK.condD rfl (fun hc11 => ?_) (fun hc11 => ?_)
               ·refine .skip ?_
                refine AK.then_ (hK56 _ ?_)
                refine .seq fun _ hK57 => ?_
                refine .block ?_
                refine .sr fun _ hK58 => ?_
                first | refine .v (.iN sl49 rfl rfl (hr := (by first | exact rdp | exact .arg (hNi _ (by omega)) | exact .arg (gNi _ (by omega))))) ?_ | refine .v (.iK sl49 rfl rfl (hr := (by first | exact rdp | exact .arg (hNi _ (by omega)) | exact .arg (gNi _ (by omega))))) ?_
                refine .v (.loadS on9 rfl (by first | exact rdp | exact .arg (hNi _ (by omega)) | exact .arg (gNi _ (by omega))) (by omega)) ?_
                refine .as rfl (.nt hK58 ?_)
                refine .sr fun _ hK59 => ?_
                refine .mv rfl ?_
                refine .v (.fieldAddr fd25_0 rfl) ?_
                refine .v (.loadBox on3 rfl bsp rfl) ?_
                refine AK.call co31 rfl (fun w hw => s_refwvalid w (ts.getD j []) m.L (hlt _ (getD_mem (by omega)))) trivial rfl ?_
                rintro r o ⟨rfl, rfl⟩
                refine .v (.not rfl) ?_
                refine .nt hK59 ?_
                refine AK.condB rfl (fun hc12 => ?_) (fun hc12 => ?_)
                ·refine .sr fun _ hK60 => ?_
                 refine .as rfl (.nt hK60 (.ret (.block_ret (.then_ret (.then_ret (.block_ret (.then_ret ?_)))))))
                 refine AK.ret1 rfl rfl (fun w hw => ⟨_, _, ?_, rfl, Ret.of (hw.pick [] (by decide) rfl rfl)⟩)
                 refine ⟨false, rfl, ⟨fun h => (by cases h), fun h => ?_⟩, rfl⟩
                 exfalso
                 have h1 := h.tst.ok _ (getD_mem (d := []) (xs := ts) (k := j) (by omega))
                 rw [h1] at hc12; cases hc12
                ·have hwv : validW m.L (ts.getD j []) = true := by simpa using hc12
                 refine .skip (.block_normal ?_)
                 refine AK.then_ (hK57 _ ?_)
                 refine AK.region ?_
                 refine .v (.add rfl rfl (by omega)) ?_
                 refine .mv rfl (.nil ?_)
                 refine AK.then_ (hK54 _ _ (j + 1) ⟨by omega, all_succ hg4.2 hwv⟩ (by omega) (slr) (fun w hw => hw))
               ·refine .exit (.then_exit (.then_exit (.block_exit ?_)))
                refine AK.then_ (hK52 _ ?_)
                refine .seq fun _ hK61 => ?_
                refine .sr fun _ hK62 => ?_
                refine .as rfl (.nt hK62 (.block ?_))
                refine AK.loopK (X := Nat) [(4, _), (5, _), (7, _)] (fun i => [(17, .int .i64 (i : Int))]) (fun i => [box bx3 25 4 [.int .i64 d.L, .int .i64 d.s, vF, vN], box bx4 25 4 [.int .i64 m.L, .int .i64 m.s, uF, uN], box bx5 51 3 [vp, va, vt]]) (fun i => i ≤ m.fin.length ∧ ∀ p, p < i → ∀ q, q < p → apB m ts (p : Int) (q : Int) = true) (fun i => m.fin.length - i) (0) slr ?_ ?_ ?_ ?_
                ·exact ⟨Nat.zero_le _, fun i hi => (by cases hi)⟩
                ·exact slr
                ·exact fun w hw => hw
                ·intro i hg5 _ hK63
                 refine .seq fun _ hK64 => ?_
                 refine .sr fun _ hK65 => ?_
                 refine .mv rfl (.mv rfl ?_)
                 refine .v (.lss rfl rfl) ?_
                 refine .nt hK65 ?_
                 refine AK.condD rfl (fun hc13 => ?_) (fun hc13 => ?_)
                 ·refine .skip ?_
                  refine AK.then_ (hK64 _ ?_)
                  refine .seq fun _ hK66 => ?_
                  refine .block ?_
                  refine .sr fun _ hK67 => ?_
                  refine .as rfl (.nt hK67 (.block ?_))
                  refine AK.loopK (X := Nat) [(4, _), (5, _), (7, _), (17, _)] (fun j => [(18, .int .i64 (j : Int))]) (fun j => [box bx3 25 4 [.int .i64 d.L, .int .i64 d.s, vF, vN], box bx4 25 4 [.int .i64 m.L, .int .i64 m.s, uF, uN], box bx5 51 3 [vp, va, vt]]) (fun j => j ≤ i ∧ ∀ q, q < j → apB m ts (i : Int) (q : Int) = true) (fun j => i - j) (0) slr ?_ ?_ ?_ ?_
                  ·exact ⟨Nat.zero_le _, fun i hi => (by cases hi)⟩
                  ·exact slr
                  ·exact fun w hw => hw
                  ·intro j hg6 _ hK68
                   refine .seq fun _ hK69 => ?_
                   refine .sr fun _ hK70 => ?_
                   refine .mv rfl (.mv rfl ?_)
                   refine .v (.lss rfl rfl) ?_
                   refine .nt hK70 ?_
                   refine AK.condD rfl (fun hc14 => ?_) (fun hc14 => ?_)
                   ·refine .skip ?_
                    refine AK.then_ (hK69 _ ?_)
                    refine .seq fun _ hK71 => ?_
                    refine .block ?_
                    refine .sr fun _ hK72 => ?_
                    refine .as rfl (.nt hK72 ?_)
                    refine .seq fun _ hK73 => ?_
                    refine .sr fun _ hK74 => ?_
                    refine .v (.fieldAddr fd51_2 rfl) ?_
                    refine .v (.loadBox on49 rfl bsp rfl) ?_
                    refine .v (.lenR sl49 rfl (by first | exact rdp | exact .arg (hNi _ (by omega)) | exact .arg (gNi _ (by omega)))) ?_
                    refine .mv rfl (.nt hK74 (.block ?_))
                    refine AK.loopK (X := Nat) [(4, _), (5, _), (7, _), (17, _), (18, _), (177, _), (178, _)] (fun u => [(19, .bool (apB m (ts.take u) (i : Int) (j : Int))), (179, .int .i64 (u : Int))]) (fun u => [box bx3 25 4 [.int .i64 d.L, .int .i64 d.s, vF, vN], box bx4 25 4 [.int .i64 m.L, .int .i64 m.s, uF, uN], box bx5 51 3 [vp, va, vt]]) (fun u => u ≤ ts.length) (fun u => ts.length - u) (0) slr ?_ ?_ ?_ ?_
                    ·exact Nat.zero_le _
                    ·exact slr
                    ·exact fun w hw => hw
                    ·intro u hg7 _ hK75
                     refine .sr fun _ hK76 => ?_
                     refine .v (.lss rfl rfl) ?_
                     refine .nt hK76 ?_
                     refine .seq fun _ hK77 => ?_
                     refine AK.condD rfl (fun hc15 => ?_) (fun hc15 => ?_)
                     ·have hwl := hlt (ts.getD u []) (getD_mem (by omega))
                      have hwv := hg4.2 u (by omega)
                      have hri := run_of hvm (q := i) (by omega) hwv
                      have hrj := run_of hvm (q := j) (by omega) hwv
                      have hbi := runI_bdw hvm (q := (i : Int)) ⟨by omega, by omega⟩ hwv
                      have hbj := runI_bdw hvm (q := (j : Int)) ⟨by omega, by omega⟩ hwv
                      refine .skip ?_
                      refine AK.then_ (hK77 _ ?_)
                      refine .seq fun _ hK78 => ?_
                      refine .block ?_
                      refine .sr fun _ hK79 => ?_
                      first | refine .v (.iN sl49 rfl rfl (hr := (by first | exact rdp | exact .arg (hNi _ (by omega)) | exact .arg (gNi _ (by omega))))) ?_ | refine .v (.iK sl49 rfl rfl (hr := (by first | exact rdp | exact .arg (hNi _ (by omega)) | exact .arg (gNi _ (by omega))))) ?_
                      refine .v (.loadS on9 rfl (by first | exact rdp | exact .arg (hNi _ (by omega)) | exact .arg (gNi _ (by omega))) (by omega)) ?_
                      refine .as rfl (.nt hK79 ?_)
                      refine AK.quiet mixed krf ?_
                      refine .mv rfl (.mv rfl ?_)
                      refine QK.splitB (g := 184) rfl (fun hg_46_1 => ?_) (fun hg_46_1 => ?_)
                      ·have hg_46_1' := hg_46_1
                       try simp only [bs] at hg_46_1'
                       refine QK.pass rfl rfl (hg_46_1) rfl ?_
                       refine QK.pass rfl rfl (hg_46_1) rfl ?_
                       refine QK.pass rfl rfl (hg_46_1) rfl ?_
                       refine QK.pass rfl rfl (hg_46_1) rfl ?_
                       refine QK.pass rfl rfl (hg_46_1) rfl ?_
                       refine QK.pass rfl rfl (hg_46_1) rfl ?_
                       refine QK.pass rfl rfl (hg_46_1) rfl ?_
                       refine QK.pass rfl rfl (hg_46_1) rfl ?_
                       refine QK.pass rfl rfl (hg_46_1) rfl ?_
                       refine QK.pass rfl rfl (hg_46_1) rfl ?_
                       refine QK.pass rfl rfl (hg_46_1) rfl ?_
                       refine QK.pass rfl rfl (hg_46_1) rfl ?_
                       refine QK.pass rfl rfl (hg_46_1) rfl ?_
                       refine QK.pass rfl rfl (hg_46_1) rfl ?_
                       refine QK.pass rfl rfl (hg_46_1) rfl ?_
                       refine QK.pass rfl rfl (hg_46_1) rfl ?_
                       refine QK.pass rfl rfl (hg_46_1) rfl ?_
                       refine .v (.pickT rfl (hg_46_1) rfl) ?_
                       refine .as rfl ?_
                       refine QK.nil (QK.fin ?_)
                       refine .block_normal ?_
                       refine AK.then_ (hK78 _ ?_)
                       refine AK.region ?_
                       refine .v (.add rfl rfl (by omega)) ?_
                       refine .mv rfl (.nil ?_)
                       refine AK.then_ (hK75 _ _ (u + 1) (by omega) (by omega) (.cons (slB rfl (by rw [take_snocD [] ts u (by omega), apB_snoc, hg_46_1]; rfl)) (slr)) (fun w hw => hw))
                      ·have hg_46_1' := hg_46_1
                       try simp only [bs] at hg_46_1'
                       refine QK.val _ (Yl.fieldAddr fd25_2 rfl) ⟨_, rfl, congrArg (fun b => some (Value.bool b)) hg_46_1⟩ rfl ?_
                       refine QK.val _ (Yl.loadBox on22 rfl bsp rfl) ⟨_, rfl, congrArg (fun b => some (Value.bool b)) hg_46_1⟩ rfl ?_
                       refine QK.val _ (Yl.loadBoxG ag25 rfl bsp rfl rfl) ⟨_, rfl, congrArg (fun b => some (Value.bool b)) hg_46_1⟩ rfl ?_
                       refine QK.val _ (Yl.move rfl) ⟨_, rfl, congrArg (fun b => some (Value.bool b)) hg_46_1⟩ rfl ?_
                       refine QK.val _ (Yl.move rfl) ⟨_, rfl, congrArg (fun b => some (Value.bool b)) hg_46_1⟩ rfl ?_
                       refine QK.call (.int .i64 (runI m (i : Int) (ts.getD u []))) co49 rfl (fun w hw => s_refrun w _ m (k0.at hw) (i : Int) (ts.getD u []) hwl hvm) (fun _ _ h => by rw [h.1, hri]) ⟨_, rfl, congrArg (fun b => some (Value.bool b)) hg_46_1⟩ rfl ?_
                       first | refine QK.val _ (.iN sl22 rfl rfl (hr := (by first | exact rdp | exact .arg (hNi _ (by omega)) | exact .arg (gNi _ (by omega))))) ⟨_, rfl, congrArg (fun b => some (Value.bool b)) hg_46_1⟩ rfl ?_ | refine QK.val _ (.iK sl22 rfl rfl (hr := (by first | exact rdp | exact .arg (hNi _ (by omega)) | exact .arg (gNi _ (by omega))))) ⟨_, rfl, congrArg (fun b => some (Value.bool b)) hg_46_1⟩ rfl ?_
                       refine QK.val _ (Yl.loadB on4 rfl (by first | exact rdp | exact .arg (hNi _ (by omega)) | exact .arg (gNi _ (by omega))) (by omega)) ⟨_, rfl, congrArg (fun b => some (Value.bool b)) hg_46_1⟩ rfl ?_
                       refine QK.val _ (Yl.fieldAddr fd25_2 rfl) ⟨_, rfl, congrArg (fun b => some (Value.bool b)) hg_46_1⟩ rfl ?_
                       refine QK.val _ (Yl.loadBox on22 rfl bsp rfl) ⟨_, rfl, congrArg (fun b => some (Value.bool b)) hg_46_1⟩ rfl ?_
                       refine QK.val _ (Yl.loadBoxG ag25 rfl bsp rfl rfl) ⟨_, rfl, congrArg (fun b => some (Value.bool b)) hg_46_1⟩ rfl ?_
                       refine QK.val _ (Yl.move rfl) ⟨_, rfl, congrArg (fun b => some (Value.bool b)) hg_46_1⟩ rfl ?_
                       refine QK.val _ (Yl.move rfl) ⟨_, rfl, congrArg (fun b => some (Value.bool b)) hg_46_1⟩ rfl ?_
                       refine QK.call (.int .i64 (runI m (j : Int) (ts.getD u []))) co49 rfl (fun w hw => s_refrun w _ m (k0.at hw) (j : Int) (ts.getD u []) hwl hvm) (fun _ _ h => by rw [h.1, hrj]) ⟨_, rfl, congrArg (fun b => some (Value.bool b)) hg_46_1⟩ rfl ?_
                       first | refine QK.val _ (.iN sl22 rfl rfl (hr := (by first | exact rdp | exact .arg (hNi _ (by omega)) | exact .arg (gNi _ (by omega))))) ⟨_, rfl, congrArg (fun b => some (Value.bool b)) hg_46_1⟩ rfl ?_ | refine QK.val _ (.iK sl22 rfl rfl (hr := (by first | exact rdp | exact .arg (hNi _ (by omega)) | exact .arg (gNi _ (by omega))))) ⟨_, rfl, congrArg (fun b => some (Value.bool b)) hg_46_1⟩ rfl ?_
                       refine QK.val _ (Yl.loadB on4 rfl (by first | exact rdp | exact .arg (hNi _ (by omega)) | exact .arg (gNi _ (by omega))) (by omega)) ⟨_, rfl, congrArg (fun b => some (Value.bool b)) hg_46_1⟩ rfl ?_
                       refine QK.val _ (Yl.neqB bo4 rfl rfl) ⟨_, rfl, congrArg (fun b => some (Value.bool b)) hg_46_1⟩ rfl ?_
                       refine .v (.pickF rfl (hg_46_1) rfl) ?_
                       refine .as rfl ?_
                       refine QK.nil (QK.fin ?_)
                       refine .block_normal ?_
                       refine AK.then_ (hK78 _ ?_)
                       refine AK.region ?_
                       refine .v (.add rfl rfl (by omega)) ?_
                       refine .mv rfl (.nil ?_)
                       refine AK.then_ (hK75 _ _ (u + 1) (by omega) (by omega) (.cons (slB rfl (by rw [take_snocD [] ts u (by omega), apB_snoc, hg_46_1]; rfl)) (slr)) (fun w hw => hw))
                     ·have htk : ts.take u = ts := by rw [show u = ts.length by omega, List.take_length]
                      refine .exit (.then_exit (.then_exit (.block_exit ?_)))
                      refine AK.then_ (hK73 _ ?_)
                      refine .sr fun _ hK80 => ?_
                      refine .mv rfl ?_
                      refine .v (.not rfl) ?_
                      refine .nt hK80 ?_
                      refine AK.condB rfl (fun hc16 => ?_) (fun hc16 => ?_)
                      ·refine .sr fun _ hK81 => ?_
                       refine .as rfl (.nt hK81 (.ret (.block_ret (.then_ret (.then_ret (.block_ret (.block_ret (.then_ret (.then_ret (.block_ret (.then_ret ?_)))))))))))
                       refine AK.ret1 rfl rfl (fun w hw => ⟨_, _, ?_, rfl, Ret.of (hw.pick [] (by decide) rfl rfl)⟩)
                       refine ⟨false, rfl, ⟨fun h => (by cases h), fun h => ?_⟩, rfl⟩
                       exfalso
                       have h1 := h.tst.sep (i : Int) (j : Int) ⟨by omega, by omega⟩ ⟨by omega, by omega⟩ (apB_iff.1 (by rw [htk] at hc16; simpa using hc16))
                       omega
                      ·have hap : apB m ts (i : Int) (j : Int) = true := by rw [htk] at hc16; simpa using hc16
                       refine .skip (.block_normal ?_)
                       refine AK.then_ (hK71 _ ?_)
                       refine AK.region ?_
                       refine .mv rfl ?_
                       refine .v (.add rfl rfl (by omega)) ?_
                       refine .as rfl (.nil ?_)
                       refine AK.then_ (hK68 _ _ (j + 1) ⟨by omega, all_succ hg6.2 hap⟩ (by omega) (slr) (fun w hw => hw))
                   ·refine .exit (.then_exit (.then_exit (.block_exit (.block_normal ?_))))
                    refine AK.then_ (hK66 _ ?_)
                    refine AK.region ?_
                    refine .mv rfl ?_
                    refine .v (.add rfl rfl (by omega)) ?_
                    refine .as rfl (.nil ?_)
                    refine AK.then_ (hK63 _ _ (i + 1) ⟨by omega, all_succ hg5.2 (fun q hq => hg6.2 q (by omega))⟩ (by omega) (slr) (fun w hw => hw))
                 ·refine .exit (.then_exit (.then_exit (.block_exit ?_)))
                  refine AK.then_ (hK61 _ ?_)
                  refine .sr fun _ hK82 => ?_
                  refine .as rfl (.nt hK82 (.ret ?_))
                  refine AK.ret1 rfl rfl (fun w hw => ⟨_, _, ?_, rfl, Ret.of (hw.pick [] (by decide) rfl rfl)⟩)
                  refine ⟨true, rfl, ⟨fun _ => ⟨hv, hvm, hLL, MapOK.mk' hml hbd hst0 (fun i hi => hg1.2 i (by omega)), ⟨hal1, fun i hi => hg3.2 i (by omega)⟩, ⟨htl1, fun a ha => (by obtain ⟨i, hi, e⟩ := mem_getD [] ha; rw [← e]; exact hg4.2 i (by omega)), apB_sep (fun i hi => hg5.2 i (by omega))⟩⟩, fun _ => rfl⟩, rfl⟩

set_option maxHeartbeats 1000000 in
set_option maxRecDepth 100000 in
theorem l_checks (w : World) (v : Value) (d : Dfa) (h : RdD (fun _ => False) w v d) (vm : Value) (m : Dfa) (k : RdD (fun _ => False) w vm m) (vp va vt : Value) (mp : List Int) (ac ts : List (List UInt8)) (hp : RdL (fun _ => False) (Value.int .i64) w vp mp) (ha : RdL (fun _ => False) sv w va ac) (hla : ∀ a ∈ ac, a.length ≤ 9223372036854775807) (ht : RdL (fun _ => False) sv w vt ts) (hlt : ∀ a ∈ ts, a.length ≤ 9223372036854775807) : CallS Try.prog 10 [v, vm, .agg #[vp, va, vt]] w (fun r o => r = .bool true ∧ o = []) := by
 have h0 := h
 obtain ⟨vF, vN, rfl, hF, hN⟩ := h
 have hF0 := hF
 have hN0 := hN
 obtain ⟨rs, hrl, hNr, hNi⟩ := hN
 have sF := hF.sl
 have sN := hNr.sl
 have hmf := hF.le
 have hmn := hNr.le
 unfold RdL at hF
 have k0 := k
 obtain ⟨uF, uN, rfl, gF, gN⟩ := k
 have gF0 := gF
 have gN0 := gN
 obtain ⟨ss, gsl, gNr, gNi⟩ := gN
 have tF := gF.sl
 have tN := gNr.sl
 have gmf := gF.le
 have gmn := gNr.le
 unfold RdL at gF
 have hp0 := hp
 have ha0 := ha
 have ht0 := ht
 have hps := hp.sl
 have has := ha.sl
 have hts := ht.sl
 have hpl := hp.le
 have hal := ha.le
 have htl := ht.le
 unfold RdL at hp ha ht
 refine spec_of Try.func10 rfl (Nat.le_of_ble_eq_true rfl) ?_
 refine .sr fun _ hK1 => ?_
 refine AK.box_ (E := 25) (cs := [.int .i64 d.L, .int .i64 d.s, vF, vN]) rfl rfl rfl trivial rfl (fun bx3 => ?_)
 refine AK.box_ (E := 25) (cs := [.int .i64 m.L, .int .i64 m.s, uF, uN]) rfl rfl rfl trivial rfl (fun bx4 => ?_)
 refine AK.box_ (E := 51) (cs := [vp, va, vt]) rfl rfl rfl trivial rfl (fun bx5 => ?_)
 refine .as rfl (.nt hK1 ?_)
 refine .seq fun _ hK2 => ?_
 refine .sr fun _ hK3 => ?_
 refine .v (.fieldAddr fd25_2 rfl) ?_
 refine .v (.loadBox on22 rfl bsp rfl) ?_
 refine .v (.lenR sl22 rfl rdp) ?_
 refine .v (.gtr rfl rfl) ?_
 refine .mv rfl ?_
 refine AK.splitB (g := 11) rfl (fun hg_1_4 => ?_) (fun hg_1_4 => ?_)
 ·have hg_1_4' := hg_1_4
  try simp only [bs] at hg_1_4'
  refine AK.pass rfl rfl (hg_1_4) rfl ?_
  refine AK.pass rfl rfl (hg_1_4) rfl ?_
  refine AK.pass rfl rfl (hg_1_4) rfl ?_
  refine AK.pass rfl rfl (hg_1_4) rfl ?_
  refine .v (.pickT rfl (hg_1_4) rfl) ?_
  refine .nt hK3 ?_
  refine AK.cond_t rfl (rfl) ?_
  refine .sr fun _ hK4 => ?_
  refine AK.call co16 rfl (fun w hw => s_awake w) trivial rfl ?_
  rintro r o ⟨rfl, rfl⟩
  refine .as rfl (.nt hK4 (.ret (.then_ret ?_)))
  refine AK.ret1 rfl rfl (fun w hw => ⟨_, _, ?_, rfl, Ret.of (hw.pick [] (by decide) rfl rfl)⟩)
  exact ⟨rfl, rfl⟩
 ·have hg_1_4' := hg_1_4
  try simp only [bs] at hg_1_4'
  refine AK.val _ (Yl.fieldAddr fd25_2 rfl) ⟨_, rfl, congrArg (fun b => some (Value.bool b)) hg_1_4⟩ rfl ?_
  refine AK.val _ (Yl.loadBox on22 rfl bsp rfl) ⟨_, rfl, congrArg (fun b => some (Value.bool b)) hg_1_4⟩ rfl ?_
  refine AK.val _ (Yl.lenR sl22 rfl rdp) ⟨_, rfl, congrArg (fun b => some (Value.bool b)) hg_1_4⟩ rfl ?_
  refine AK.val _ (Yl.gtr rfl rfl) ⟨_, rfl, congrArg (fun b => some (Value.bool b)) hg_1_4⟩ rfl ?_
  refine .v (.pickF rfl (hg_1_4) rfl) ?_
  refine .nt hK3 ?_
  refine AK.condD rfl (fun hc0 => ?_) (fun hc0 => ?_)
  ·refine .sr fun _ hK5 => ?_
   refine AK.call co16 rfl (fun w hw => s_awake w) trivial rfl ?_
   rintro r o ⟨rfl, rfl⟩
   refine .as rfl (.nt hK5 (.ret (.then_ret ?_)))
   refine AK.ret1 rfl rfl (fun w hw => ⟨_, _, ?_, rfl, Ret.of (hw.pick [] (by decide) rfl rfl)⟩)
   exact ⟨rfl, rfl⟩
  ·refine .skip ?_
   refine AK.then_ (hK2 _ ?_)
   refine .seq fun _ hK6 => ?_
   try (conv => enter [2, 2]; dsimp only [List.set_cons_zero, List.set_cons_succ, List.cons_append, List.nil_append])
   refine AK.held 13 mixed ?_
   refine HeldK.first 0 (fuel := 12) (listed' := (lb 13 1)) _ rfl krf krf rfl (Yl.loadBoxG ag25 rfl bsp rfl rfl) trivial rfl ?_
   refine HeldK.first 1 (fuel := 11) (listed' := (lb 13 3)) _ rfl krf krf rfl (Yl.loadBoxG ag25 rfl bsp rfl rfl) trivial rfl ?_
   refine HeldK.first 2 (fuel := 10) (listed' := (lb 13 7)) _ rfl krf krf rfl (Yl.loadBoxG ag51 rfl bsp rfl rfl) trivial rfl ?_
   refine HeldK.first 4 (fuel := 9) (listed' := (lb 13 23)) _ rfl krf krf rfl (Yl.loadBoxG ag25 rfl bsp rfl rfl) trivial rfl ?_
   refine HeldK.first 5 (fuel := 8) (listed' := (lb 13 55)) _ rfl krf krf rfl (Yl.loadBoxG ag25 rfl bsp rfl rfl) trivial rfl ?_
   refine HeldK.first 6 (fuel := 7) (listed' := (lb 13 119)) _ rfl krf krf rfl (Yl.loadBoxG ag51 rfl bsp rfl rfl) trivial rfl ?_
   refine HeldK.one 3 (fuel := 6) (listed' := (lb 13 127)) krf rfl krf ?_
   refine AK.call co32 rfl (fun w hw => s_check w _ d (h0.at hw) _ m (k0.at hw) _ _ _ mp ac ts (hp0.at hw) (ha0.at hw) hla (ht0.at hw) hlt) trivial rfl ?_
   rintro r o ⟨b1, rfl, hb1, rfl⟩
   refine .nil ?_
   try (conv => enter [2, 2]; dsimp only [List.set_cons_zero, List.set_cons_succ, List.cons_append, List.nil_append])
   refine HeldK.back hle ?_
   refine HeldK.one 7 (fuel := 5) (listed' := (lb 13 255)) krf rfl krf ?_
   refine AK.call co33 rfl (fun w hw => s_refcheck w _ d (h0.at hw) _ m (k0.at hw) _ _ _ mp ac ts (hp0.at hw) (ha0.at hw) hla (ht0.at hw) hlt) trivial rfl ?_
   rintro r o ⟨b2, rfl, hb2, rfl⟩
   refine .nil ?_
   try (conv => enter [2, 2]; dsimp only [List.set_cons_zero, List.set_cons_succ, List.cons_append, List.nil_append])
   refine HeldK.back hle ?_
   refine HeldK.first 8 (fuel := 4) (listed' := (lb 13 511)) _ rfl krf krf rfl (Yl.eqlB bo4 rfl rfl) trivial rfl ?_
   refine HeldK.first 9 (fuel := 3) (listed' := (lb 13 1023)) _ rfl krf krf rfl (Yl.move rfl) trivial rfl ?_
   refine HeldK.one 10 (fuel := 2) (listed' := (lb 13 2047)) krf rfl krf ?_
   refine AK.knownT (g := 27) rfl (by rw [show b1 = b2 from Bool.eq_iff_iff.2 (hb1.trans hb2.symm)]; exact beq_self_eq_true _) (fun hg_3_9 => ?_)
   refine AK.call co16 rfl (fun w hw => s_awake w) ⟨_, rfl, congrArg (fun b => some (Value.bool b)) hg_3_9⟩ rfl ?_
   rintro r o ⟨rfl, rfl⟩
   refine .nil ?_
   try (conv => enter [2, 2]; dsimp only [List.set_cons_zero, List.set_cons_succ, List.cons_append, List.nil_append])
   refine HeldK.back hle ?_
   refine HeldK.first 11 (fuel := 1) (listed' := (lb 13 4095)) _ rfl krf krf rfl (Yl.pickT rfl (hg_3_9) rfl) trivial rfl ?_
   refine HeldK.first 12 (fuel := 0) (listed' := (lb 13 8191)) _ rfl krf krf rfl (Yl.assign rfl) trivial rfl ?_
   refine HeldK.done krf ?_
   refine AK.then_ (hK6 _ ?_)
   refine .ret ?_
   refine AK.ret1 rfl rfl (fun w hw => ⟨_, _, ?_, rfl, Ret.of (hw.pick [] (by decide) rfl rfl)⟩)
   exact ⟨rfl, rfl⟩

end Go.Proofs.Ytoikhoniogicdaa
