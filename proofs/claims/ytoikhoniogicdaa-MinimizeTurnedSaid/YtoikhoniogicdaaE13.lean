import Derived.Test.YtoikhoniogicdaaE12
import Derived.Test.YtoikhoniogicdaaE1
import Derived.Test.YtoikhoniogicdaaE5
import Derived.Test.YtoikhoniogicdaaEf
import Derived.Test.YtoikhoniogicdaaD8
import Derived.Test.YtoikhoniogicdaaOd
set_option linter.unusedVariables false
set_option linter.unusedSimpArgs false
namespace Go.Proofs.Ytoikhoniogicdaa
open Go.Sx Go.RowKit
set_option maxHeartbeats 400000 in
set_option maxRecDepth 100000 in
theorem s_check (w : World) (v : Value) (d : Dfa) (h : RdD (fun _ => False) w v d) (vm : Value) (m : Dfa) (k : RdD (fun _ => False) w vm m) (vp va vt : Value) (mp : List Int) (ac ts : List (List UInt8)) (hp : RdL (fun _ => False) (Value.int .i64) w vp mp) (ha : RdL (fun _ => False) sv w va ac) (hla : ∀ a ∈ ac, a.length ≤ 9223372036854775807) (ht : RdL (fun _ => False) sv w vt ts) (hlt : ∀ a ∈ ts, a.length ≤ 9223372036854775807) : CallS Try.prog 32 [v, vm, .agg #[vp, va, vt]] w (fun r o => ∃ b, r = .bool b ∧ (b = true ↔ ChkP d m mp ac ts) ∧ o = []) := by
 have h0 := h
 obtain ⟨vF, vN, rfl, hF, hN⟩ := h
 have hF0 := hF
 have hN0 := hN
 obtain ⟨rs, hrl, hNr, hNi⟩ := hN
 have sF := hF.sl
 have sN := hNr.sl
 have hmf := hF.le
 have hmn := hNr.le
 unfold RdL at hF
 have k0 := k
 obtain ⟨uF, uN, rfl, gF, gN⟩ := k
 have gF0 := gF
 have gN0 := gN
 obtain ⟨ss, gsl, gNr, gNi⟩ := gN
 have tF := gF.sl
 have tN := gNr.sl
 have gmf := gF.le
 have gmn := gNr.le
 unfold RdL at gF
 have hp0 := hp
 have ha0 := ha
 have ht0 := ht
 have hps := hp.sl
 have has := ha.sl
 have hts := ht.sl
 have hpl := hp.le
 have hal := ha.le
 have htl := ht.le
 unfold RdL at hp ha ht
 refine spec_of Try.func32 rfl (Nat.le_of_ble_eq_true rfl) ?_
 refine .sr fun _ hK1 => ?_
 refine AK.box_ (E := 25) (cs := [.int .i64 d.L, .int .i64 d.s, vF, vN]) rfl rfl rfl trivial rfl (fun bx3 => ?_)
 refine AK.box_ (E := 25) (cs := [.int .i64 m.L, .int .i64 m.s, uF, uN]) rfl rfl rfl trivial rfl (fun bx4 => ?_)
 refine AK.box_ (E := 51) (cs := [vp, va, vt]) rfl rfl rfl trivial rfl (fun bx5 => ?_)
 refine .as rfl (.nt hK1 ?_)
 refine .seq fun _ hK2 => ?_
 refine .sr fun _ hK3 => ?_
 refine .v (.loadBoxG ag25 rfl bsp rfl rfl) ?_
 refine AK.call co23 rfl (fun w hw => s_validate w _ d (h0.at hw)) trivial rfl ?_
 rintro r o ⟨rfl, rfl⟩
 refine .v (.neq rfl rfl) ?_
 refine .mv rfl ?_
 refine AK.splitB (g := 10) rfl (fun hg_1_3 => ?_) (fun hg_1_3 => ?_)
 ·have hg_1_3' := hg_1_3
  try simp only [bs] at hg_1_3'
  refine AK.pass rfl rfl (hg_1_3) rfl ?_
  refine AK.pass rfl rfl (hg_1_3) rfl ?_
  refine AK.pass rfl rfl (hg_1_3) rfl ?_
  refine .v (.pickT rfl (hg_1_3) rfl) ?_
  refine .mv rfl ?_
  refine AK.pass rfl rfl rfl rfl ?_
  refine AK.pass rfl rfl rfl rfl ?_
  refine AK.pass rfl rfl rfl rfl ?_
  refine AK.pass rfl rfl rfl rfl ?_
  refine AK.pass rfl rfl rfl rfl ?_
  refine .v (.pickT rfl (rfl) rfl) ?_
  refine .nt hK3 ?_
  refine AK.cond_t rfl (rfl) ?_
  refine .sr fun _ hK4 => ?_
  refine .as rfl (.nt hK4 (.ret (.then_ret ?_)))
  refine AK.ret1 rfl rfl (fun w hw => ⟨_, _, ?_, rfl, Ret.of (hw.pick [] (by decide) rfl rfl)⟩)
  refine ⟨false, rfl, ⟨fun h => (by cases h), fun h => ?_⟩, rfl⟩
  exfalso
  have k1 := (errV_iff d).2 h.vd
  have k2 := (errV_iff m).2 h.vm
  have k3 := h.L
  first | (simp_all; done) | omega
 ·have hg_1_3' := hg_1_3
  try simp only [bs] at hg_1_3'
  refine AK.val _ (Yl.loadBoxG ag25 rfl bsp rfl rfl) ⟨_, rfl, congrArg (fun b => some (Value.bool b)) hg_1_3⟩ rfl ?_
  refine AK.call co23 rfl (fun w hw => s_validate w _ m (k0.at hw)) ⟨_, rfl, congrArg (fun b => some (Value.bool b)) hg_1_3⟩ rfl ?_
  rintro r o ⟨rfl, rfl⟩
  refine AK.val _ (Yl.neq rfl rfl) ⟨_, rfl, congrArg (fun b => some (Value.bool b)) hg_1_3⟩ rfl ?_
  refine .v (.pickF rfl (hg_1_3) rfl) ?_
  refine .mv rfl ?_
  refine AK.splitB (g := 15) rfl (fun hg_1_8 => ?_) (fun hg_1_8 => ?_)
  ·have hg_1_8' := hg_1_8
   try simp only [bs] at hg_1_8'
   refine AK.pass rfl rfl (hg_1_8) rfl ?_
   refine AK.pass rfl rfl (hg_1_8) rfl ?_
   refine AK.pass rfl rfl (hg_1_8) rfl ?_
   refine AK.pass rfl rfl (hg_1_8) rfl ?_
   refine AK.pass rfl rfl (hg_1_8) rfl ?_
   refine .v (.pickT rfl (hg_1_8) rfl) ?_
   refine .nt hK3 ?_
   refine AK.cond_t rfl (rfl) ?_
   refine .sr fun _ hK5 => ?_
   refine .as rfl (.nt hK5 (.ret (.then_ret ?_)))
   refine AK.ret1 rfl rfl (fun w hw => ⟨_, _, ?_, rfl, Ret.of (hw.pick [] (by decide) rfl rfl)⟩)
   refine ⟨false, rfl, ⟨fun h => (by cases h), fun h => ?_⟩, rfl⟩
   exfalso
   have k1 := (errV_iff d).2 h.vd
   have k2 := (errV_iff m).2 h.vm
   have k3 := h.L
   first | (simp_all; done) | omega
  ·have hg_1_8' := hg_1_8
   try simp only [bs] at hg_1_8'
   refine AK.val _ (Yl.fieldAddr fd25_0 rfl) ⟨_, rfl, congrArg (fun b => some (Value.bool b)) hg_1_8⟩ rfl ?_
   refine AK.val _ (Yl.loadBox on3 rfl bsp rfl) ⟨_, rfl, congrArg (fun b => some (Value.bool b)) hg_1_8⟩ rfl ?_
   refine AK.val _ (Yl.fieldAddr fd25_0 rfl) ⟨_, rfl, congrArg (fun b => some (Value.bool b)) hg_1_8⟩ rfl ?_
   refine AK.val _ (Yl.loadBox on3 rfl bsp rfl) ⟨_, rfl, congrArg (fun b => some (Value.bool b)) hg_1_8⟩ rfl ?_
   refine AK.val _ (Yl.neq rfl rfl) ⟨_, rfl, congrArg (fun b => some (Value.bool b)) hg_1_8⟩ rfl ?_
   refine .v (.pickF rfl (hg_1_8) rfl) ?_
   refine .nt hK3 ?_
   refine AK.condNe rfl (fun hc0 => ?_) (fun hc0 => ?_)
   ·refine .sr fun _ hK6 => ?_
    refine .as rfl (.nt hK6 (.ret (.then_ret ?_)))
    refine AK.ret1 rfl rfl (fun w hw => ⟨_, _, ?_, rfl, Ret.of (hw.pick [] (by decide) rfl rfl)⟩)
    refine ⟨false, rfl, ⟨fun h => (by cases h), fun h => ?_⟩, rfl⟩
    exfalso
    have k1 := (errV_iff d).2 h.vd
    have k2 := (errV_iff m).2 h.vm
    have k3 := h.L
    first | (simp_all; done) | omega
   ·have hv : VD d := (errV_iff d).1 (by simpa using hg_1_3')
    have hvm : VD m := (errV_iff m).1 (by simpa using hg_1_8')
    have hLL : d.L = m.L := by simpa using hc0
    refine .skip ?_
    refine AK.then_ (hK2 _ ?_)
    refine .sr fun _ hK7 => ?_
    refine .v (.loadBoxG ag25 rfl bsp rfl rfl) ?_
    refine .v (.loadBoxG ag25 rfl bsp rfl rfl) ?_
    refine .v (.fieldAddr fd51_0 rfl) ?_
    refine .v (.loadBox on26 rfl bsp rfl) ?_
    refine AK.call co46 rfl (fun w hw => s_checkmap w _ d (h0.at hw) _ m (k0.at hw) hv hvm hLL _ mp (hp0.at hw)) trivial rfl ?_
    rintro r o ⟨b1, rfl, hb1, rfl⟩
    refine .mv rfl ?_
    refine AK.splitB (g := 27) rfl (fun hg_3_5 => ?_) (fun hg_3_5 => ?_)
    ·have hg_3_5' := hg_3_5
     try simp only [bs] at hg_3_5'
     refine AK.val _ (Yl.loadBoxG ag25 rfl bsp rfl rfl) ⟨_, rfl, congrArg (fun b => some (Value.bool b)) hg_3_5⟩ rfl ?_
     refine AK.val _ (Yl.fieldAddr fd51_1 rfl) ⟨_, rfl, congrArg (fun b => some (Value.bool b)) hg_3_5⟩ rfl ?_
     refine AK.val _ (Yl.loadBox on49 rfl bsp rfl) ⟨_, rfl, congrArg (fun b => some (Value.bool b)) hg_3_5⟩ rfl ?_
     refine AK.call co47 rfl (fun w hw => s_checkacc w _ m (k0.at hw) hvm _ ac (ha0.at hw) hla) ⟨_, rfl, congrArg (fun b => some (Value.bool b)) hg_3_5⟩ rfl ?_
     rintro r o ⟨b2, rfl, hb2, rfl⟩
     refine .v (.pickT rfl (hg_3_5) rfl) ?_
     refine .mv rfl ?_
     refine AK.splitB (g := 33) rfl (fun hg_3_11 => ?_) (fun hg_3_11 => ?_)
     ·have hg_3_11' := hg_3_11
      try simp only [bs] at hg_3_11'
      refine AK.val _ (Yl.loadBoxG ag25 rfl bsp rfl rfl) ⟨_, rfl, congrArg (fun b => some (Value.bool b)) hg_3_11⟩ rfl ?_
      refine AK.val _ (Yl.fieldAddr fd51_2 rfl) ⟨_, rfl, congrArg (fun b => some (Value.bool b)) hg_3_11⟩ rfl ?_
      refine AK.val _ (Yl.loadBox on49 rfl bsp rfl) ⟨_, rfl, congrArg (fun b => some (Value.bool b)) hg_3_11⟩ rfl ?_
      refine AK.call co48 rfl (fun w hw => s_checktests w _ m (k0.at hw) hvm _ ts (ht0.at hw) hlt) ⟨_, rfl, congrArg (fun b => some (Value.bool b)) hg_3_11⟩ rfl ?_
      rintro r o ⟨b3, rfl, hb3, rfl⟩
      refine .v (.pickT rfl (hg_3_11) rfl) ?_
      refine .as rfl (.nt hK7 (.ret ?_))
      refine AK.ret1 rfl rfl (fun w hw => ⟨_, _, ?_, rfl, Ret.of (hw.pick [] (by decide) rfl rfl)⟩)
      exact ⟨_, rfl, ⟨fun h => (by first | (cases h; done) | exact ⟨hv, hvm, hLL, hb1.1 (by assumption), hb2.1 (by assumption), hb3.1 h⟩), fun h => (by have k1 := hb1.2 h.map; first | exact nomatch k1.symm.trans (‹b1 = false›) | (have k2 := hb2.2 h.acc; first | exact nomatch k2.symm.trans (‹b2 = false›) | exact hb3.2 h.tst))⟩, rfl⟩
     ·have hg_3_11' := hg_3_11
      try simp only [bs] at hg_3_11'
      refine AK.pass rfl rfl (hg_3_11) rfl ?_
      refine AK.pass rfl rfl (hg_3_11) rfl ?_
      refine AK.pass rfl rfl (hg_3_11) rfl ?_
      refine AK.pass rfl rfl (hg_3_11) rfl ?_
      refine .v (.pickF rfl (hg_3_11) rfl) ?_
      refine .as rfl (.nt hK7 (.ret ?_))
      refine AK.ret1 rfl rfl (fun w hw => ⟨_, _, ?_, rfl, Ret.of (hw.pick [] (by decide) rfl rfl)⟩)
      exact ⟨_, rfl, ⟨fun h => (by first | (cases h; done) | exact ⟨hv, hvm, hLL, hb1.1 (by assumption), hb2.1 (by assumption), hb3.1 h⟩), fun h => (by have k1 := hb1.2 h.map; first | exact nomatch k1.symm.trans (‹b1 = false›) | (have k2 := hb2.2 h.acc; first | exact nomatch k2.symm.trans (‹b2 = false›) | exact hb3.2 h.tst))⟩, rfl⟩
    ·have hg_3_5' := hg_3_5
     try simp only [bs] at hg_3_5'
     refine AK.pass rfl rfl (hg_3_5) rfl ?_
     refine AK.pass rfl rfl (hg_3_5) rfl ?_
     refine AK.pass rfl rfl (hg_3_5) rfl ?_
     refine AK.pass rfl rfl (hg_3_5) rfl ?_
     refine .v (.pickF rfl (hg_3_5) rfl) ?_
     refine .mv rfl ?_
     refine AK.pass rfl rfl rfl rfl ?_
     refine AK.pass rfl rfl rfl rfl ?_
     refine AK.pass rfl rfl rfl rfl ?_
     refine AK.pass rfl rfl rfl rfl ?_
     refine .v (.pickF rfl (rfl) rfl) ?_
     refine .as rfl (.nt hK7 (.ret ?_))
     refine AK.ret1 rfl rfl (fun w hw => ⟨_, _, ?_, rfl, Ret.of (hw.pick [] (by decide) rfl rfl)⟩)
     exact ⟨_, rfl, ⟨fun h => (by first | (cases h; done) | exact ⟨hv, hvm, hLL, hb1.1 (by assumption), hb2.1 (by assumption), hb3.1 h⟩), fun h => (by have k1 := hb1.2 h.map; first | exact nomatch k1.symm.trans (‹b1 = false›) | (have k2 := hb2.2 h.acc; first | exact nomatch k2.symm.trans (‹b2 = false›) | exact hb3.2 h.tst))⟩, rfl⟩

section
open Go.ChangeShapes Go.WideShapes Go.ChangeAt
variable {H : Type} {enc : TypeId × Value → H} {P : Program} {W : World}
/-- the struct of a proof: its fields, as the table of types has them -/
def prfTB (P : Program) (t : TypeId) : Bool := match P.underlying t with
  | some (.struct fs) => match fs[0]?, fs[1]?, fs[2]? with
    | some a, some b, some c =>
      (a.offset == 0 && b.offset == 1 && c.offset == 2) && (P.cellsOf a.type == 1 && P.cellsOf b.type == 1 && P.cellsOf c.type == 1) &&
      (match P.underlying a.type with | some (.slice e) => P.cellsOf e == 1 && (match P.underlying e with | some (.int .i64) => true | _ => false) | _ => false) &&
      (match P.underlying b.type with | some (.slice e) => P.cellsOf e == 1 && (match P.underlying e with | some .string => true | _ => false) | _ => false) &&
      (match P.underlying c.type with | some (.slice e) => P.cellsOf e == 1 && (match P.underlying e with | some .string => true | _ => false) | _ => false) &&
      (P.cellsOf t == 3)
    | _, _, _ => false
  | _ => false
theorem open_prf {t : TypeId} (hB : prfTB P t = true) {v : Value} {d : DataW H} {p : List MemPlace} (hval : Value.okWide P W .any 0 t v) (h : DataW.Trod enc P W 0 (fun _ => true) true t v d p) :
    ∃ (vp va vt : Value) (mp : List Int) (ac ts : List (List UInt8)), v = .agg #[vp, va, vt] ∧ RdL (fun _ => False) (Value.int .i64) W vp mp ∧ RdL (fun _ => False) sv W va ac ∧ (∀ a ∈ ac, a.length ≤ 9223372036854775807) ∧ RdL (fun _ => False) sv W vt ts ∧ (∀ a ∈ ts, a.length ≤ 9223372036854775807) := by
  obtain ⟨fuel, h⟩ := h
  unfold prfTB at hB
  split at hB
  case h_2 => cases hB
  rename_i fs hu
  split at hB
  case h_2 => cases hB
  rename_i a b c ha hb hc
  simp only [Bool.and_eq_true, beq_iff_eq] at hB
  obtain ⟨⟨⟨⟨⟨⟨⟨oa, ob⟩, oc⟩, ⟨ca, cb⟩, cc⟩, hA⟩, hS⟩, hT⟩, ht3⟩ := hB
  obtain ⟨cs, rfl, _⟩ := okWide_struct hu hval
  have h' : DataW.trod enc P W 0 (fun _ => true) true fuel t cs.toList = some (d, p) := by simpa [Value.cells] using h
  obtain ⟨xs, n, _, _, hl, _, hf⟩ := DataW.trod_struct hu h'
  have fa := hf 0 a ha
  have fb := hf 1 b hb
  have fc := hf 2 c hc
  have some_of : ∀ (i : Nat) (g : Field), fs[i]? = some g → ∃ y, xs[i]? = some y := fun i g hg => by
    have : i < xs.length := by
      have h1 := (Array.getElem?_eq_some_iff.1 hg).1
      omega
    exact ⟨xs[i], List.getElem?_eq_getElem this⟩
  obtain ⟨ya, ea⟩ := some_of 0 a ha
  obtain ⟨yb, eb⟩ := some_of 1 b hb
  obtain ⟨yc, ec⟩ := some_of 2 c hc
  rw [ea, oa, ca] at fa
  rw [eb, ob, cb] at fb
  rw [ec, oc, cc] at fc
  rw [ht3] at hl
  split at hA
  case h_2 => cases hA
  rename_i eA uA
  simp only [Bool.and_eq_true, beq_iff_eq] at hA
  obtain ⟨cA, hA⟩ := hA
  split at hA
  case h_2 => cases hA
  rename_i ueA
  split at hS
  case h_2 => cases hS
  rename_i eS uS
  simp only [Bool.and_eq_true, beq_iff_eq] at hS
  obtain ⟨cS, hS⟩ := hS
  split at hS
  case h_2 => cases hS
  rename_i ueS
  split at hT
  case h_2 => cases hT
  rename_i eT uT
  simp only [Bool.and_eq_true, beq_iff_eq] at hT
  obtain ⟨cT, hT⟩ := hT
  split at hT
  case h_2 => cases hT
  rename_i ueT
  have hl3 : cs.toList.length = 3 := hl
  obtain ⟨v0, v1, v2, ecs⟩ : ∃ v0 v1 v2, cs.toList = [v0, v1, v2] := by
    match hq : cs.toList, hl3 with
    | [v0, v1, v2], _ => exact ⟨_, _, _, rfl⟩
  rw [ecs] at fa fb fc
  simp at fa fb fc
  obtain ⟨vp, mp, h0, r0, _⟩ := op_ints uA ueA cA fa
  obtain ⟨va, ac, h1, r1, w1⟩ := op_strs uS ueS cS fb
  obtain ⟨vt, ts, h2, r2, w2⟩ := op_strs uT ueT cT fc
  cases h0; cases h1; cases h2
  exact ⟨_, _, _, mp, ac, ts, by rw [show cs = #[v0, v1, v2] from Array.toList_inj.1 (by simpa using ecs)], r0, r1, w1, r2, w2⟩
end

set_option maxHeartbeats 1000000 in
set_option maxRecDepth 100000 in
theorem l_sound (w : World) (v : Value) (d : Dfa) (h : RdD (fun _ => False) w v d) (vm : Value) (m : Dfa) (k : RdD (fun _ => False) w vm m) (vp va vt : Value) (mp : List Int) (ac ts : List (List UInt8)) (hp : RdL (fun _ => False) (Value.int .i64) w vp mp) (ha : RdL (fun _ => False) sv w va ac) (hla : ∀ a ∈ ac, a.length ≤ 9223372036854775807) (ht : RdL (fun _ => False) sv w vt ts) (hlt : ∀ a ∈ ts, a.length ≤ 9223372036854775807) (l : List UInt8) (hm : l.length ≤ 9223372036854775807) : CallS Try.prog 11 [v, vm, .agg #[vp, va, vt], sv l] w (fun r o => r = .bool true ∧ o = []) := by
 have h0 := h
 obtain ⟨vF, vN, rfl, hF, hN⟩ := h
 have hF0 := hF
 have hN0 := hN
 obtain ⟨rs, hrl, hNr, hNi⟩ := hN
 have sF := hF.sl
 have sN := hNr.sl
 have hmf := hF.le
 have hmn := hNr.le
 unfold RdL at hF
 have k0 := k
 obtain ⟨uF, uN, rfl, gF, gN⟩ := k
 have gF0 := gF
 have gN0 := gN
 obtain ⟨ss, gsl, gNr, gNi⟩ := gN
 have tF := gF.sl
 have tN := gNr.sl
 have gmf := gF.le
 have gmn := gNr.le
 unfold RdL at gF
 have hp0 := hp
 have ha0 := ha
 have ht0 := ht
 have hps := hp.sl
 have has := ha.sl
 have hts := ht.sl
 have hpl := hp.le
 have hal := ha.le
 have htl := ht.le
 unfold RdL at hp ha ht
 refine spec_of Try.func11 rfl (Nat.le_of_ble_eq_true rfl) ?_
 refine .sr fun _ hK1 => ?_
 refine AK.box_ (E := 25) (cs := [.int .i64 d.L, .int .i64 d.s, vF, vN]) rfl rfl rfl trivial rfl (fun bx4 => ?_)
 refine AK.box_ (E := 25) (cs := [.int .i64 m.L, .int .i64 m.s, uF, uN]) rfl rfl rfl trivial rfl (fun bx5 => ?_)
 refine AK.box_ (E := 51) (cs := [vp, va, vt]) rfl rfl rfl trivial rfl (fun bx6 => ?_)
 refine .as rfl (.nt hK1 ?_)
 refine .seq fun _ hK2 => ?_
 refine .sr fun _ hK3 => ?_
 refine .v (.loadBoxG ag25 rfl bsp rfl rfl) ?_
 refine AK.call co22 rfl (fun w hw => s_small w _ d (h0.at hw) 12) trivial rfl ?_
 rintro r o ⟨rfl, rfl⟩
 refine .v (.not rfl) ?_
 refine .mv rfl ?_
 refine AK.splitB (g := 14) rfl (fun hg_1_3 => ?_) (fun hg_1_3 => ?_)
 ·have hg_1_3' := hg_1_3
  try simp only [bs] at hg_1_3'
  refine AK.pass rfl rfl (hg_1_3) rfl ?_
  refine AK.pass rfl rfl (hg_1_3) rfl ?_
  refine AK.pass rfl rfl (hg_1_3) rfl ?_
  refine .v (.pickT rfl (hg_1_3) rfl) ?_
  refine .mv rfl ?_
  refine AK.pass rfl rfl rfl rfl ?_
  refine AK.pass rfl rfl rfl rfl ?_
  refine AK.pass rfl rfl rfl rfl ?_
  refine AK.pass rfl rfl rfl rfl ?_
  refine AK.pass rfl rfl rfl rfl ?_
  refine .v (.pickT rfl (rfl) rfl) ?_
  refine .nt hK3 ?_
  refine AK.cond_t rfl (rfl) ?_
  refine .sr fun _ hK4 => ?_
  refine AK.call co16 rfl (fun w hw => s_awake w) trivial rfl ?_
  rintro r o ⟨rfl, rfl⟩
  refine .as rfl (.nt hK4 (.ret (.then_ret ?_)))
  refine AK.ret1 rfl rfl (fun w hw => ⟨_, _, ?_, rfl, Ret.of (hw.pick [] (by decide) rfl rfl)⟩)
  exact ⟨rfl, rfl⟩
 ·have hg_1_3' := hg_1_3
  try simp only [bs] at hg_1_3'
  refine AK.val _ (Yl.loadBoxG ag25 rfl bsp rfl rfl) ⟨_, rfl, congrArg (fun b => some (Value.bool b)) hg_1_3⟩ rfl ?_
  refine AK.call co22 rfl (fun w hw => s_small w _ m (k0.at hw) 12) ⟨_, rfl, congrArg (fun b => some (Value.bool b)) hg_1_3⟩ rfl ?_
  rintro r o ⟨rfl, rfl⟩
  refine AK.val _ (Yl.not rfl) ⟨_, rfl, congrArg (fun b => some (Value.bool b)) hg_1_3⟩ rfl ?_
  refine .v (.pickF rfl (hg_1_3) rfl) ?_
  refine .mv rfl ?_
  refine AK.splitB (g := 19) rfl (fun hg_1_8 => ?_) (fun hg_1_8 => ?_)
  ·have hg_1_8' := hg_1_8
   try simp only [bs] at hg_1_8'
   refine AK.pass rfl rfl (hg_1_8) rfl ?_
   refine AK.pass rfl rfl (hg_1_8) rfl ?_
   refine AK.pass rfl rfl (hg_1_8) rfl ?_
   refine AK.pass rfl rfl (hg_1_8) rfl ?_
   refine AK.pass rfl rfl (hg_1_8) rfl ?_
   refine .v (.pickT rfl (hg_1_8) rfl) ?_
   refine .nt hK3 ?_
   refine AK.cond_t rfl (rfl) ?_
   refine .sr fun _ hK5 => ?_
   refine AK.call co16 rfl (fun w hw => s_awake w) trivial rfl ?_
   rintro r o ⟨rfl, rfl⟩
   refine .as rfl (.nt hK5 (.ret (.then_ret ?_)))
   refine AK.ret1 rfl rfl (fun w hw => ⟨_, _, ?_, rfl, Ret.of (hw.pick [] (by decide) rfl rfl)⟩)
   exact ⟨rfl, rfl⟩
  ·have hg_1_8' := hg_1_8
   try simp only [bs] at hg_1_8'
   refine AK.val _ (Yl.loadBoxG ag25 rfl bsp rfl rfl) ⟨_, rfl, congrArg (fun b => some (Value.bool b)) hg_1_8⟩ rfl ?_
   refine AK.val _ (Yl.loadBoxG ag25 rfl bsp rfl rfl) ⟨_, rfl, congrArg (fun b => some (Value.bool b)) hg_1_8⟩ rfl ?_
   refine AK.val _ (Yl.loadBoxG ag51 rfl bsp rfl rfl) ⟨_, rfl, congrArg (fun b => some (Value.bool b)) hg_1_8⟩ rfl ?_
   refine AK.call co32 rfl (fun w hw => s_check w _ d (h0.at hw) _ m (k0.at hw) _ _ _ mp ac ts (hp0.at hw) (ha0.at hw) hla (ht0.at hw) hlt) ⟨_, rfl, congrArg (fun b => some (Value.bool b)) hg_1_8⟩ rfl ?_
   rintro r o ⟨b1, rfl, hb1, rfl⟩
   refine AK.val _ (Yl.not rfl) ⟨_, rfl, congrArg (fun b => some (Value.bool b)) hg_1_8⟩ rfl ?_
   refine .v (.pickF rfl (hg_1_8) rfl) ?_
   refine .nt hK3 ?_
   refine AK.condB rfl (fun hc0 => ?_) (fun hc0 => ?_)
   ·refine .sr fun _ hK6 => ?_
    refine AK.call co16 rfl (fun w hw => s_awake w) trivial rfl ?_
    rintro r o ⟨rfl, rfl⟩
    refine .as rfl (.nt hK6 (.ret (.then_ret ?_)))
    refine AK.ret1 rfl rfl (fun w hw => ⟨_, _, ?_, rfl, Ret.of (hw.pick [] (by decide) rfl rfl)⟩)
    exact ⟨rfl, rfl⟩
   ·have hk := hb1.1 (by simpa using hc0)
    obtain ⟨hacc, htm⟩ := hk.sound l
    refine .skip ?_
    refine AK.then_ (hK2 _ ?_)
    refine .sr fun _ hK7 => ?_
    refine .v (.loadBoxG ag25 rfl bsp rfl rfl) ?_
    refine AK.call co24 rfl (fun w hw => s_trim w _ m (k0.at hw)) trivial rfl ?_
    rintro r o ⟨tF1, tN1, tM, trs, rfl, htrs, stF, stN, stM, rfl⟩
    refine .mv rfl ?_
    refine .v (.extract rfl rfl) ?_
    refine .v (.extract rfl rfl) ?_
    refine AK.alloc el25 rfl rfl trivial rfl (fun bx9 => ?_)
    refine AK.storeBox 7 (us := [.int .i64 (TrimV m).L, .int .i64 (TrimV m).s, tF1, tN1]) (cs' := [.int .i64 (TrimV m).L, .int .i64 (TrimV m).s, tF1, tN1]) rfl sz25 rfl rfl rfl rfl oneP (Nat.le_of_ble_eq_true rfl) rfl trivial ?_
    refine .as rfl (.nt hK7 ?_)
    refine .seq fun _ hK8 => ?_
    try (conv => enter [2, 2]; dsimp only [List.set_cons_zero, List.set_cons_succ, List.cons_append, List.nil_append])
    refine AK.held 17 mixed ?_
    refine HeldK.first 0 (fuel := 16) (listed' := (lb 17 1)) _ rfl krf krf rfl (Yl.loadBoxG ag25 rfl bsp rfl rfl) trivial rfl ?_
    refine HeldK.first 1 (fuel := 15) (listed' := (lb 17 3)) _ rfl krf krf rfl (Yl.move rfl) trivial rfl ?_
    refine HeldK.first 3 (fuel := 14) (listed' := (lb 17 11)) _ rfl krf krf rfl (Yl.loadBoxG ag25 rfl bsp rfl rfl) trivial rfl ?_
    refine HeldK.first 4 (fuel := 13) (listed' := (lb 17 27)) _ rfl krf krf rfl (Yl.move rfl) trivial rfl ?_
    refine HeldK.one 2 (fuel := 12) (listed' := (lb 17 31)) krf rfl krf ?_
    refine AK.call co25 rfl (fun w hw => s_acc w _ d (h0.at hw) l hm) trivial rfl ?_
    rintro r o ⟨rfl, rfl⟩
    refine .nil ?_
    try (conv => enter [2, 2]; dsimp only [List.set_cons_zero, List.set_cons_succ, List.cons_append, List.nil_append])
    refine HeldK.back hle ?_
    refine HeldK.one 5 (fuel := 11) (listed' := (lb 17 63)) krf rfl krf ?_
    refine AK.call co25 rfl (fun w hw => s_acc w _ m (k0.at hw) l hm) trivial rfl ?_
    rintro r o ⟨rfl, rfl⟩
    refine .nil ?_
    try (conv => enter [2, 2]; dsimp only [List.set_cons_zero, List.set_cons_succ, List.cons_append, List.nil_append])
    refine HeldK.back hle ?_
    refine HeldK.first 6 (fuel := 10) (listed' := (lb 17 127)) _ rfl krf krf rfl (Yl.eqlB bo4 rfl rfl) trivial rfl ?_
    refine HeldK.first 7 (fuel := 9) (listed' := (lb 17 255)) _ rfl krf krf rfl (Yl.move rfl) trivial rfl ?_
    refine AK.knownT (g := 39) rfl (by rw [hacc]; exact beq_self_eq_true _) (fun hg_4_7 => ?_)
    refine HeldK.first 8 (fuel := 8) (listed' := (lb 17 511)) _ rfl krf krf rfl (Yl.loadBoxG ag25 rfl bsp rfl rfl) ⟨_, rfl, congrArg (fun b => some (Value.bool b)) hg_4_7⟩ rfl ?_
    refine HeldK.first 9 (fuel := 7) (listed' := (lb 17 1023)) _ rfl krf krf rfl (Yl.loadBoxG ag25 rfl bsp rfl rfl) ⟨_, rfl, congrArg (fun b => some (Value.bool b)) hg_4_7⟩ rfl ?_
    refine HeldK.one 10 (fuel := 6) (listed' := (lb 17 2047)) krf rfl krf ?_
    refine AK.call co19 rfl (fun w hw => s_min w _ d (h0.at hw)) ⟨_, rfl, congrArg (fun b => some (Value.bool b)) hg_4_7⟩ rfl ?_
    rintro r o ⟨mF, mN, mrs, rfl, hmrs, smF, smN, rfl⟩
    refine .nil ?_
    try (conv => enter [2, 2]; dsimp only [List.set_cons_zero, List.set_cons_succ, List.cons_append, List.nil_append])
    refine HeldK.back hle ?_
    refine HeldK.one 11 (fuel := 5) (listed' := (lb 17 4095)) krf rfl krf ?_
    refine AK.call co20 rfl (fun w hw => s_sameD w _ _ (TrimV m) (MinV d) (RdD.own 3 hw htrs rfl rfl rfl) (RdD.own 8 hw hmrs rfl rfl rfl)) ⟨_, rfl, congrArg (fun b => some (Value.bool b)) hg_4_7⟩ rfl ?_
    rintro r o ⟨rfl, rfl⟩
    refine .nil ?_
    try (conv => enter [2, 2]; dsimp only [List.set_cons_zero, List.set_cons_succ, List.cons_append, List.nil_append])
    refine HeldK.back hle ?_
    refine HeldK.first 12 (fuel := 4) (listed' := (lb 17 8191)) _ rfl krf krf rfl (Yl.pickT rfl (hg_4_7) rfl) trivial rfl ?_
    refine HeldK.first 13 (fuel := 3) (listed' := (lb 17 16383)) _ rfl krf krf rfl (Yl.move rfl) trivial rfl ?_
    refine HeldK.one 14 (fuel := 2) (listed' := (lb 17 32767)) krf rfl krf ?_
    refine AK.knownT (g := 45) rfl (decide_eq_true htm) (fun hg_4_13 => ?_)
    refine AK.call co16 rfl (fun w hw => s_awake w) ⟨_, rfl, congrArg (fun b => some (Value.bool b)) hg_4_13⟩ rfl ?_
    rintro r o ⟨rfl, rfl⟩
    refine .nil ?_
    try (conv => enter [2, 2]; dsimp only [List.set_cons_zero, List.set_cons_succ, List.cons_append, List.nil_append])
    refine HeldK.back hle ?_
    refine HeldK.first 15 (fuel := 1) (listed' := (lb 17 65535)) _ rfl krf krf rfl (Yl.pickT rfl (hg_4_13) rfl) trivial rfl ?_
    refine HeldK.first 16 (fuel := 0) (listed' := (lb 17 131071)) _ rfl krf krf rfl (Yl.assign rfl) trivial rfl ?_
    refine HeldK.done krf ?_
    refine AK.then_ (hK8 _ ?_)
    refine .ret ?_
    refine AK.ret1 rfl rfl (fun w hw => ⟨_, _, ?_, rfl, Ret.of (hw.pick [] (by decide) rfl rfl)⟩)
    exact ⟨rfl, rfl⟩

end Go.Proofs.Ytoikhoniogicdaa
