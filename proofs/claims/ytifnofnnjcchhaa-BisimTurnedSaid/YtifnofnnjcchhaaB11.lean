import Derived.Test.YtifnofnnjcchhaaB10
import Derived.Test.YtifnofnnjcchhaaB1
set_option linter.unusedVariables false
set_option linter.unusedSimpArgs false
namespace Go.Proofs.Ytifnofnnjcchhaa
open Go.Sx Go.RowKit Go.Sx.Pt
theorem RdS.from1 {C : Cx} {own : List Asn} {v : Value} {xs : List Int} {k : Nat} (hr : RdS C own v 1 xs.length (xs.map (Value.int .i64))) (hc : CapOk C own v xs.length) (hk : k ≤ xs.length) : RdS C own (slFrom 1 v k) 1 (xs.drop k).length ((xs.drop k).map (Value.int .i64)) := by
  have h := RdS.from hr hc hk
  rw [List.length_drop, List.map_drop]
  simpa using h
theorem getD_drop1 {xs : List Int} {m : Nat} : (xs.drop 1).getD m 0 = xs.getD (m + 1) 0 := by
  simp [List.getD_eq_getElem?_getD, Nat.add_comm]
set_option maxHeartbeats 2000000 in
set_option maxRecDepth 100000 in
theorem s_check (w : World) (u v : Value) (a b : Dfa) (hu : RdD (fun _ => False) w u a) (hv : RdD (fun _ => False) w v b) (vp : Value) (p : List Int) (hp : RdI w vp p) : CallS Try.prog 21 [u, v, vp] w (fun r o => ∃ bb, r = .bool bb ∧ (bb = true ↔ ChkP a b p) ∧ o = []) := by
 have hu0 := hu
 have hv0 := hv
 obtain ⟨aF, aN, rfl, haF, haN⟩ := hu
 obtain ⟨bF, bN, rfl, hbF, hbN⟩ := hv
 obtain ⟨ra, hra, haNr, haNi⟩ := haN
 obtain ⟨rb, hrb, hbNr, hbNi⟩ := hbN
 unfold RdL at haF hbF
 have m1 := haF.le
 have m2 := hbF.le
 have hp0 := hp
 unfold RdI at hp
 have m3 := Rd.le hp
 refine spec_of Try.func21 rfl (Nat.le_of_ble_eq_true rfl) ?_
 refine .sr fun _ hK1 => ?_
 refine AK.box_ (E := 25) (cs := [.int .i64 a.L, .int .i64 a.s, aF, aN]) rfl rfl rfl trivial rfl (fun bx3 => ?_)
 refine AK.box_ (E := 25) (cs := [.int .i64 b.L, .int .i64 b.s, bF, bN]) rfl rfl rfl trivial rfl (fun bx4 => ?_)
 refine .as rfl (.nt hK1 ?_)
 refine .seq fun _ hK2 => ?_
 refine .sr fun _ hK3 => ?_
 refine .v (.loadBoxG ag25 rfl bsp rfl rfl) ?_
 refine .v (.loadBoxG ag25 rfl bsp rfl rfl) ?_
 refine AK.call co35 rfl (fun w hw => s_bvalid w _ _ a b (hu0.at hw) (hv0.at hw)) trivial rfl ?_
 rintro r o ⟨rfl, rfl⟩
 refine .v (.neq rfl rfl) ?_
 refine .mv rfl ?_
 refine AK.splitB (g := 21) rfl (fun hg_1_4 => ?_) (fun hg_1_4 => ?_)
 ·have hg_1_4' := hg_1_4
  try simp only [bs] at hg_1_4'
  refine AK.pass rfl rfl (hg_1_4) rfl ?_
  refine AK.pass rfl rfl (hg_1_4) rfl ?_
  refine AK.pass rfl rfl (hg_1_4) rfl ?_
  refine AK.pass rfl rfl (hg_1_4) rfl ?_
  refine AK.pass rfl rfl (hg_1_4) rfl ?_
  refine AK.pass rfl rfl (hg_1_4) rfl ?_
  refine AK.pass rfl rfl (hg_1_4) rfl ?_
  refine AK.pass rfl rfl (hg_1_4) rfl ?_
  refine AK.pass rfl rfl (hg_1_4) rfl ?_
  refine AK.pass rfl rfl (hg_1_4) rfl ?_
  refine .v (.pickT rfl (hg_1_4) rfl) ?_
  refine .mv rfl ?_
  refine AK.pass rfl rfl rfl rfl ?_
  refine AK.pass rfl rfl rfl rfl ?_
  refine AK.pass rfl rfl rfl rfl ?_
  refine .v (.pickT rfl (rfl) rfl) ?_
  refine .nt hK3 ?_
  refine AK.cond_t rfl (rfl) ?_
  refine .sr fun _ hK4 => ?_
  refine .as rfl (.nt hK4 (.ret (.then_ret ?_)))
  refine AK.ret1 rfl rfl (fun w hw => ⟨_, _, ?_, rfl, Ret.of (hw.pick [] (by decide) rfl rfl)⟩)
  refine ⟨_, rfl, ⟨fun h => (by cases h), fun h => ?_⟩, rfl⟩
  have h1 := h.ok
  have h2 := h.len
  have h3 := h.valid
  first | omega | (simp_all; done)
 ·have hg_1_4' := hg_1_4
  try simp only [bs] at hg_1_4'
  refine AK.val _ (Yl.move rfl) ⟨_, rfl, congrArg (fun b => some (Value.bool b)) hg_1_4⟩ rfl ?_
  refine AK.val _ (Yl.lenR sl26 rfl (by first | exact rdp | exact .big 3 x rfl (matL_get hrl (by omega)))) ⟨_, rfl, congrArg (fun b => some (Value.bool b)) hg_1_4⟩ rfl ?_
  refine AK.val _ (Yl.fieldAddr fd25_2 rfl) ⟨_, rfl, congrArg (fun b => some (Value.bool b)) hg_1_4⟩ rfl ?_
  refine AK.val _ (Yl.loadBox on22 rfl bsp rfl) ⟨_, rfl, congrArg (fun b => some (Value.bool b)) hg_1_4⟩ rfl ?_
  refine AK.val _ (Yl.lenR sl22 rfl (by first | exact rdp | exact .big 3 x rfl (matL_get hrl (by omega)))) ⟨_, rfl, congrArg (fun b => some (Value.bool b)) hg_1_4⟩ rfl ?_
  refine AK.val _ (Yl.fieldAddr fd25_2 rfl) ⟨_, rfl, congrArg (fun b => some (Value.bool b)) hg_1_4⟩ rfl ?_
  refine AK.val _ (Yl.loadBox on22 rfl bsp rfl) ⟨_, rfl, congrArg (fun b => some (Value.bool b)) hg_1_4⟩ rfl ?_
  refine AK.val _ (Yl.lenR sl22 rfl (by first | exact rdp | exact .big 3 x rfl (matL_get hrl (by omega)))) ⟨_, rfl, congrArg (fun b => some (Value.bool b)) hg_1_4⟩ rfl ?_
  refine AK.val _ (Yl.add rfl rfl (by have hE : pairE a b = 0 := (by omega); obtain ⟨ha, hb, hL⟩ := pairE_zero hE; have h1 := ha.n; have h2 := hb.n; omega)) ⟨_, rfl, congrArg (fun b => some (Value.bool b)) hg_1_4⟩ rfl ?_
  refine AK.val _ (Yl.neq rfl rfl) ⟨_, rfl, congrArg (fun b => some (Value.bool b)) hg_1_4⟩ rfl ?_
  refine .v (.pickF rfl (hg_1_4) rfl) ?_
  refine .mv rfl ?_
  refine AK.splitB (g := 33) rfl (fun hg_1_16 => ?_) (fun hg_1_16 => ?_)
  ·have hg_1_16' := hg_1_16
   try simp only [bs] at hg_1_16'
   refine AK.pass rfl rfl (hg_1_16) rfl ?_
   refine AK.pass rfl rfl (hg_1_16) rfl ?_
   refine AK.pass rfl rfl (hg_1_16) rfl ?_
   refine .v (.pickT rfl (hg_1_16) rfl) ?_
   refine .nt hK3 ?_
   refine AK.cond_t rfl (rfl) ?_
   refine .sr fun _ hK5 => ?_
   refine .as rfl (.nt hK5 (.ret (.then_ret ?_)))
   refine AK.ret1 rfl rfl (fun w hw => ⟨_, _, ?_, rfl, Ret.of (hw.pick [] (by decide) rfl rfl)⟩)
   refine ⟨_, rfl, ⟨fun h => (by cases h), fun h => ?_⟩, rfl⟩
   have h1 := h.ok
   have h2 := h.len
   have h3 := h.valid
   first | omega | (simp_all; done)
  ·have hg_1_16' := hg_1_16
   try simp only [bs] at hg_1_16'
   refine AK.val _ (Yl.move rfl) ⟨_, rfl, congrArg (fun b => some (Value.bool b)) hg_1_16⟩ rfl ?_
   refine AK.call co45 rfl (fun w hw => q_valid w vp p (RdI.at hp0 hw)) ⟨_, rfl, congrArg (fun b => some (Value.bool b)) hg_1_16⟩ rfl ?_
   rintro r o ⟨rfl, rfl⟩
   refine AK.val _ (Yl.not rfl) ⟨_, rfl, congrArg (fun b => some (Value.bool b)) hg_1_16⟩ rfl ?_
   refine .v (.pickF rfl (hg_1_16) rfl) ?_
   refine .nt hK3 ?_
   refine AK.condB rfl (fun hc0 => ?_) (fun hc0 => ?_)
   ·refine .sr fun _ hK6 => ?_
    refine .as rfl (.nt hK6 (.ret (.then_ret ?_)))
    refine AK.ret1 rfl rfl (fun w hw => ⟨_, _, ?_, rfl, Ret.of (hw.pick [] (by decide) rfl rfl)⟩)
    refine ⟨_, rfl, ⟨fun h => (by cases h), fun h => ?_⟩, rfl⟩
    have h1 := h.ok
    have h2 := h.len
    have h3 := h.valid
    first | omega | (simp_all; done)
   ·have hE : pairE a b = 0 := by omega
    obtain ⟨ha, hb, hL⟩ := pairE_zero hE
    have hna := ha.n
    have hnb := hb.n
    have has := ha.s
    have hbs := hb.s
    have haL := ha.L
    have hax := ha.nx
    have hbx := hb.nx
    have hpl : p.length = (a.fin.length + b.fin.length) := by omega
    have hvp : ValidP p := by simpa using hc0
    have hcn : (classB p).length ≤ p.length := by have h1 := classB_len hvp; have h2 := valid_cnt hvp; omega
    refine .skip ?_
    refine AK.then_ (hK2 _ ?_)
    refine .sr fun _ hK7 => ?_
    refine .v (.fieldAddr fd25_2 rfl) ?_
    refine .v (.loadBox on22 rfl bsp rfl) ?_
    refine .v (.lenR sl22 rfl (by first | exact rdp | exact .big 3 x rfl (matL_get hrl (by omega)))) ?_
    refine .as rfl (.nt hK7 ?_)
    refine .seq fun _ hK8 => ?_
    refine .seq fun _ hK9 => ?_
    refine AK.quiet mixed krf ?_
    refine .mv rfl ?_
    refine .v (.fieldAddr fd25_1 rfl) ?_
    refine .v (.loadBox on3 rfl bsp rfl) ?_
    first | refine .v (.iN sl26 rfl rfl (hr := (by first | exact rdp | exact .big 3 x rfl (matL_get hrl (by omega))))) ?_ | refine .v (.iK sl26 rfl rfl (hr := (by first | exact rdp | exact .big 3 x rfl (matL_get hrl (by omega))))) ?_
    refine .v (.loadI on3 rfl (by first | exact rdp | exact .big 3 x rfl (matL_get hrl (by omega))) (by omega)) ?_
    refine .mv rfl (.mv rfl ?_)
    refine .v (.fieldAddr fd25_1 rfl) ?_
    refine .v (.loadBox on3 rfl bsp rfl) ?_
    refine .v (.add rfl rfl (by omega)) ?_
    first | refine .v (.iN sl26 rfl rfl (hr := (by first | exact rdp | exact .big 3 x rfl (matL_get hrl (by omega))))) ?_ | refine .v (.iK sl26 rfl rfl (hr := (by first | exact rdp | exact .big 3 x rfl (matL_get hrl (by omega))))) ?_
    refine .v (.loadI on3 rfl (by first | exact rdp | exact .big 3 x rfl (matL_get hrl (by omega))) (by omega)) ?_
    refine .v (.neq rfl rfl) ?_
    refine QK.nil (QK.fin ?_)
    refine AK.then_ (hK9 _ ?_)
    refine AK.condNe rfl (fun hc1 => ?_) (fun hc1 => ?_)
    ·refine .sr fun _ hK10 => ?_
     refine .as rfl (.nt hK10 (.ret (.then_ret ?_)))
     refine AK.ret1 rfl rfl (fun w hw => ⟨_, _, ?_, rfl, Ret.of (hw.pick [] (by decide) rfl rfl)⟩)
     refine ⟨_, rfl, ⟨fun h => (by cases h), fun h => ?_⟩, rfl⟩
     exact absurd h.start hc1
    ·have hst : p.getD a.s.toNat 0 = p.getD ((a.fin.length : Int) + b.s).toNat 0 := hc1
     refine .skip ?_
     refine AK.then_ (hK8 _ ?_)
     refine .seq fun _ hK11 => ?_
     refine .sr fun _ hK12 => ?_
     refine .mv rfl ?_
     refine AK.call co46 rfl (fun w hw => q_classes w vp p (RdI.at hp0 hw)) trivial rfl ?_
     rintro cv o ⟨rs, hrl, rfl⟩
     refine .v (.lenR sl23 rfl (by first | exact rdp | exact .big 3 x rfl (matL_get hrl (by omega)))) ?_
     refine .mv rfl (.nt hK12 (.block ?_))
     refine AK.loopK (X := Nat) [(2, _), (3, _), (4, _), (55, _), (56, _)] (fun x => [(57, .int .i64 (x : Int))]) (fun x => [box bx3 25 4 [.int .i64 a.L, .int .i64 a.s, aF, aN], box bx4 25 4 [.int .i64 b.L, .int .i64 b.s, bF, bN], row cv 26 1 (classB p).length rs, bigA (matL 3 rs (classB p))]) (fun x => x ≤ (classB p).length ∧ ∀ c m, c < x → m < ((classB p).getD c []).length → Pk a b p c m) (fun x => (classB p).length - x) (0) slr ?_ ?_ ?_ ?_
     ·exact ⟨Nat.zero_le _, fun c m hc => by omega⟩
     ·exact slr
     ·exact fun w hw => hw
     ·intro x hg0 _ hK13
      refine .sr fun _ hK14 => ?_
      refine .v (.lss rfl rfl) ?_
      refine .nt hK14 ?_
      refine .seq fun _ hK15 => ?_
      refine AK.condD rfl (fun hc2 => ?_) (fun hc2 => ?_)
      ·have hcp := class_pos hvp (c := x) (by omega)
       have hc0f := cl_at hvp (a := x) (by omega) (m := 0) hcp
       have hdl : (((classB p).getD x []).drop 1).length = ((classB p).getD x []).length - 1 := List.length_drop
       have hr1 := both_row ha hb hL (show (((classB p).getD x []).getD 0 0).toNat < (a.fin.length + b.fin.length) by omega)
       have hcll := cl_len hvp (a := x) (by omega)
       refine .skip ?_
       refine AK.then_ (hK15 _ ?_)
       refine .seq fun _ hK16 => ?_
       refine .block ?_
       refine .sr fun _ hK17 => ?_
       first | refine .v (.iN sl23 rfl rfl (hr := (by first | exact rdp | exact .big 3 x rfl (matL_get hrl (by omega))))) ?_ | refine .v (.iK sl23 rfl rfl (hr := (by first | exact rdp | exact .big 3 x rfl (matL_get hrl (by omega))))) ?_
       refine .v (.loadV on26 rfl (by first | exact rdp | exact .big 3 x rfl (matL_get hrl (by omega))) (by omega)) ?_
       refine .as rfl (.nt hK17 ?_)
       refine .seq fun _ hK18 => ?_
       try (conv => enter [2, 2]; dsimp only [List.set_cons_zero, List.set_cons_succ, List.cons_append, List.nil_append])
       refine AK.held 11 mixed ?_
       refine HeldK.first 0 (fuel := 10) (listed' := (lb 11 1)) _ rfl krf krf rfl (Yl.loadBoxG ag25 rfl bsp rfl rfl) trivial rfl ?_
       refine HeldK.first 1 (fuel := 9) (listed' := (lb 11 3)) _ rfl krf krf rfl (Yl.loadBoxG ag25 rfl bsp rfl rfl) trivial rfl ?_
       refine HeldK.first 2 (fuel := 8) (listed' := (lb 11 7)) _ rfl krf krf rfl (Yl.move rfl) trivial rfl ?_
       refine HeldK.first 3 (fuel := 7) (listed' := (lb 11 15)) _ rfl krf krf rfl (Yl.idxN (k := 0) sl26 rfl rfl (by first | exact rdp | exact .big 3 x rfl (matL_get hrl (by omega))) (by decide) (by omega)) trivial rfl ?_
       refine HeldK.first 4 (fuel := 6) (listed' := (lb 11 31)) _ rfl krf krf rfl (Yl.loadI on3 rfl (by first | exact rdp | exact .big 3 x rfl (matL_get hrl (by omega))) (by omega)) trivial rfl ?_
       refine HeldK.one 5 (fuel := 5) (listed' := (lb 11 63)) krf rfl krf ?_
       refine AK.call co47 rfl (fun w hw => s_row w a b aF aN bF bN ra rb (Rd.at0 haF hw) (Rd.at0 hbF hw) (Rd.at0 haNr hw) (Rd.at0 hbNr hw) (fun i hi => (haNi i hi).at hw) (fun i hi => (hbNi i hi).at hw) hra hrb ha hb (((classB p).getD x []).getD 0 0) (by omega)) trivial rfl ?_
       rintro r o ⟨nv1, rfl, hn1, rfl⟩
       have hA1 : decide ((((classB p).getD x []).getD 0 0) < a.fin.length) = true → Rd (fun b => ¬ (fun _ => False) b) w nv1 1 ((bothD a b).nx.getD (((classB p).getD x []).getD 0 0).toNat []).length (((bothD a b).nx.getD (((classB p).getD x []).getD 0 0).toNat []).map (Value.int .i64)) := fun h => by
        have h1 := of_decide_eq_true h
        rw [hn1 h1, both_nl ha (show (((classB p).getD x []).getD 0 0).toNat < a.fin.length by omega)]
        exact haNi _ (by omega)
       refine .nil ?_
       try (conv => enter [2, 2]; dsimp only [List.set_cons_zero, List.set_cons_succ, List.cons_append, List.nil_append])
       refine HeldK.back hle ?_
       refine HeldK.first 6 (fuel := 4) (listed' := (lb 11 127)) _ rfl krf krf rfl (Yl.move rfl) trivial rfl ?_
       refine HeldK.first 7 (fuel := 3) (listed' := (lb 11 255)) _ rfl krf krf rfl (Yl.extract rfl rfl) trivial rfl ?_
       refine HeldK.first 8 (fuel := 2) (listed' := (lb 11 511)) _ rfl krf krf rfl (Yl.extract rfl rfl) trivial rfl ?_
       refine HeldK.first 9 (fuel := 1) (listed' := (lb 11 1023)) _ rfl krf krf rfl (Yl.assign rfl) trivial rfl ?_
       refine HeldK.first 10 (fuel := 0) (listed' := (lb 11 2047)) _ rfl krf krf rfl (Yl.assign rfl) trivial rfl ?_
       refine HeldK.done krf ?_
       refine AK.then_ (hK18 _ ?_)
       refine .sr fun _ hK19 => ?_
       refine .mv rfl ?_
       refine AK.val (slFrom 1 (rs.getD x undef) 1) (Yl.sliceFrom 1 (CapOk.big 3 x rfl (matL_get hrl (by omega))) sl26 rfl rfl (by omega)) trivial rfl ?_
       refine AK.val (.int .i64 (((((classB p).getD x []).drop 1).length : Nat) : Int)) (Yl.lenR sl26 rfl (RdS.from1 (.big 3 x rfl (matL_get hrl (by omega))) (CapOk.big 3 x rfl (matL_get hrl (by omega))) (by omega))) trivial rfl ?_
       refine .mv rfl (.nt hK19 (.block ?_))
       refine AK.loopK (X := Nat) [(2, _), (3, _), (4, _), (10, _), (11, _), (55, _), (56, _), (57, _), (71, _), (72, _)] (fun y => [(73, .int .i64 (y : Int))]) (fun y => [box bx3 25 4 [.int .i64 a.L, .int .i64 a.s, aF, aN], box bx4 25 4 [.int .i64 b.L, .int .i64 b.s, bF, bN], row cv 26 1 (classB p).length rs, bigA (matL 3 rs (classB p)), rowX 3 (decide ((((classB p).getD x []).getD 0 0) < a.fin.length)) nv1 ((bothD a b).nx.getD (((classB p).getD x []).getD 0 0).toNat [])]) (fun y => y ≤ (((classB p).getD x []).drop 1).length ∧ ∀ m, m < y → Pk a b p x (m + 1)) (fun y => (((classB p).getD x []).drop 1).length - y) (0) slr ?_ ?_ ?_ ?_
       ·exact ⟨Nat.zero_le _, fun m hm => by omega⟩
       ·exact slr
       ·exact fun w hw => hw
       ·intro y hg1 _ hK20
        refine .sr fun _ hK21 => ?_
        refine .v (.lss rfl rfl) ?_
        refine .nt hK21 ?_
        refine .seq fun _ hK22 => ?_
        refine AK.condD rfl (fun hc3 => ?_) (fun hc3 => ?_)
        ·have hcmf := cl_at hvp (a := x) (by omega) (m := y + 1) (by omega)
         have hr2 := both_row ha hb hL (show (((classB p).getD x []).getD (y + 1) 0).toNat < (a.fin.length + b.fin.length) by omega)
         refine .skip ?_
         refine AK.then_ (hK22 _ ?_)
         refine .seq fun _ hK23 => ?_
         refine .block ?_
         refine .sr fun _ hK24 => ?_
         refine .v (.iN sl26 rfl rfl (hr := (RdS.from1 (.big 3 x rfl (matL_get hrl (by omega))) (CapOk.big 3 x rfl (matL_get hrl (by omega))) (by omega)))) ?_
         refine AK.val (.int .i64 (((classB p).getD x []).getD (y + 1) 0)) (Yl.valE (Yl.loadI on3 rfl (RdS.from1 (.big 3 x rfl (matL_get hrl (by omega))) (CapOk.big 3 x rfl (matL_get hrl (by omega))) (by omega)) (by omega)) (congrArg (Value.int .i64) getD_drop1)) trivial rfl ?_
         refine .as rfl (.nt hK24 ?_)
         refine .sr fun _ hK25 => ?_
         refine .v (.loadBoxG ag25 rfl bsp rfl rfl) ?_
         refine .v (.loadBoxG ag25 rfl bsp rfl rfl) ?_
         refine .mv rfl ?_
         refine AK.call co47 rfl (fun w hw => s_row w a b aF aN bF bN ra rb (Rd.at0 haF hw) (Rd.at0 hbF hw) (Rd.at0 haNr hw) (Rd.at0 hbNr hw) (fun i hi => (haNi i hi).at hw) (fun i hi => (hbNi i hi).at hw) hra hrb ha hb (((classB p).getD x []).getD (y + 1) 0) (by omega)) trivial rfl ?_
         rintro r o ⟨nv2, rfl, hn2, rfl⟩
         have hA2 : decide ((((classB p).getD x []).getD (y + 1) 0) < a.fin.length) = true → Rd (fun b => ¬ (fun _ => False) b) w nv2 1 ((bothD a b).nx.getD (((classB p).getD x []).getD (y + 1) 0).toNat []).length (((bothD a b).nx.getD (((classB p).getD x []).getD (y + 1) 0).toNat []).map (Value.int .i64)) := fun h => by
          have h1 := of_decide_eq_true h
          rw [hn2 h1, both_nl ha (show (((classB p).getD x []).getD (y + 1) 0).toNat < a.fin.length by omega)]
          exact haNi _ (by omega)
         refine .mv rfl ?_
         refine .v (.extract rfl rfl) ?_
         refine .v (.extract rfl rfl) ?_
         refine .as rfl (.as rfl (.nt hK25 ?_))
         refine .seq fun _ hK26 => ?_
         refine .sr fun _ hK27 => ?_
         refine .mv rfl (.mv rfl ?_)
         refine .v (.neqB bo4 rfl rfl) ?_
         refine .nt hK27 ?_
         refine AK.cond rfl (fun hc4 => ?_) (fun hc4 => ?_)
         ·try simp only [bs] at hc4
          refine .sr fun _ hK28 => ?_
          refine .as rfl (.nt hK28 (.ret (.then_ret (.block_ret (.then_ret (.then_ret (.block_ret (.block_ret (.then_ret (.then_ret (.block_ret ?_)))))))))))
          refine .then_ret ?_
          refine AK.ret1 rfl rfl (fun w hw => ⟨_, _, ?_, rfl, Ret.of (hw.pick [] (by decide) rfl rfl)⟩)
          refine ⟨_, rfl, ⟨fun h => (by cases h), fun h => ?_⟩, rfl⟩
          have h2 := (chk_pk h (c := x) (m := y + 1) (by omega) (by omega)).1
          simp_all
         ·try simp only [bs] at hc4
          have hfe : fB a b (((classB p).getD x []).getD 0 0).toNat = fB a b (((classB p).getD x []).getD (y + 1) 0).toNat := by simpa using hc4
          refine .skip ?_
          refine AK.then_ (hK26 _ ?_)
          refine .sr fun _ hK29 => ?_
          refine .mv rfl ?_
          refine AK.val (.int .i64 ((((bothD a b).nx.getD (((classB p).getD x []).getD 0 0).toNat []).length : Nat) : Int)) (Yl.lenR sl26 rfl (RdS.rowX 4 rfl (fun h => .arg (hA1 h)))) trivial rfl ?_
          refine .mv rfl (.nt hK29 (.block ?_))
          refine AK.loopK (X := Nat × Unit) [(2, _), (3, _), (4, _), (10, _), (11, _), (15, _), (55, _), (56, _), (57, _), (71, _), (72, _), (73, _), (88, _)] (fun z => [(89, .int .i64 (z.1 : Int))]) (fun z => [box bx3 25 4 [.int .i64 a.L, .int .i64 a.s, aF, aN], box bx4 25 4 [.int .i64 b.L, .int .i64 b.s, bF, bN], row cv 26 1 (classB p).length rs, bigA (matL 3 rs (classB p)), rowX 3 (decide ((((classB p).getD x []).getD 0 0) < a.fin.length)) nv1 ((bothD a b).nx.getD (((classB p).getD x []).getD 0 0).toNat []), rowX 3 (decide ((((classB p).getD x []).getD (y + 1) 0) < a.fin.length)) nv2 ((bothD a b).nx.getD (((classB p).getD x []).getD (y + 1) 0).toNat [])]) (fun z => (z.1 : Int) ≤ a.L ∧ ∀ k : Nat, k < z.1 → p.getD (sB a b k (((classB p).getD x []).getD 0 0).toNat) 0 = p.getD (sB a b k (((classB p).getD x []).getD (y + 1) 0).toNat) 0) (fun z => a.L.toNat - z.1) ((0, ())) slr ?_ ?_ ?_ ?_
          ·exact ⟨by dsimp only; omega, fun k hk => by cases hk⟩
          ·exact slr
          ·exact fun w hw => hw
          ·intro z hg2 _ hK30
           refine .sr fun _ hK31 => ?_
           refine .v (.lss rfl rfl) ?_
           refine .nt hK31 ?_
           refine .seq fun _ hK32 => ?_
           refine AK.condD rfl (fun hc5 => ?_) (fun hc5 => ?_)
           ·have hzL : ((z.1 : Nat) : Int) < a.L := by omega
            have hs1 := sB_lt ha hb hL (show (((classB p).getD x []).getD 0 0).toNat < (a.fin.length + b.fin.length) by omega) hzL
            have hs2 := sB_lt ha hb hL (show (((classB p).getD x []).getD (y + 1) 0).toNat < (a.fin.length + b.fin.length) by omega) hzL
            refine .skip ?_
            refine AK.then_ (hK32 _ ?_)
            refine .seq fun _ hK33 => ?_
            refine .block ?_
            refine .sr fun _ hK34 => ?_
            refine .mv rfl (.as rfl (.nt hK34 ?_))
            refine .seq fun _ hK35 => ?_
            refine AK.quiet mixed krf ?_
            refine .mv rfl (.mv rfl (.mv rfl ?_))
            refine .v (.iN sl26 rfl rfl (hr := (RdS.rowX 4 rfl (fun h => .arg (hA1 h))))) ?_
            refine QK.val (.int .i64 ((sB a b z.1 (((classB p).getD x []).getD 0 0).toNat : Nat) : Int)) (Yl.valE (Yl.loadI on3 rfl (RdS.rowX 4 rfl (fun h => .arg (hA1 h))) (by omega)) (congrArg (Value.int .i64) (both_step (u := (((classB p).getD x []).getD 0 0).toNat) ha hb hL (by omega) hzL))) trivial rfl ?_
            first | refine .v (.iN sl26 rfl rfl (hr := (by first | exact rdp | exact .big 3 x rfl (matL_get hrl (by omega))))) ?_ | refine .v (.iK sl26 rfl rfl (hr := (by first | exact rdp | exact .big 3 x rfl (matL_get hrl (by omega))))) ?_
            refine .v (.loadI on3 rfl (by first | exact rdp | exact .big 3 x rfl (matL_get hrl (by omega))) (by omega)) ?_
            refine .mv rfl (.mv rfl (.mv rfl ?_))
            refine .v (.iN sl26 rfl rfl (hr := (RdS.rowX 5 rfl (fun h => .arg (hA2 h))))) ?_
            refine QK.val (.int .i64 ((sB a b z.1 (((classB p).getD x []).getD (y + 1) 0).toNat : Nat) : Int)) (Yl.valE (Yl.loadI on3 rfl (RdS.rowX 5 rfl (fun h => .arg (hA2 h))) (by omega)) (congrArg (Value.int .i64) (both_step (u := (((classB p).getD x []).getD (y + 1) 0).toNat) ha hb hL (by omega) hzL))) trivial rfl ?_
            first | refine .v (.iN sl26 rfl rfl (hr := (by first | exact rdp | exact .big 3 x rfl (matL_get hrl (by omega))))) ?_ | refine .v (.iK sl26 rfl rfl (hr := (by first | exact rdp | exact .big 3 x rfl (matL_get hrl (by omega))))) ?_
            refine .v (.loadI on3 rfl (by first | exact rdp | exact .big 3 x rfl (matL_get hrl (by omega))) (by omega)) ?_
            refine .v (.neq rfl rfl) ?_
            refine QK.nil (QK.fin ?_)
            refine AK.then_ (hK35 _ ?_)
            refine AK.condNe rfl (fun hc6 => ?_) (fun hc6 => ?_)
            ·refine .sr fun _ hK36 => ?_
             refine .as rfl (.nt hK36 (.ret (.block_ret (.then_ret (.then_ret (.block_ret (.block_ret (.then_ret (.then_ret (.block_ret (.block_ret ?_)))))))))))
             refine .then_ret (.then_ret (.block_ret (.then_ret ?_)))
             refine AK.ret1 rfl rfl (fun w hw => ⟨_, _, ?_, rfl, Ret.of (hw.pick [] (by decide) rfl rfl)⟩)
             refine ⟨_, rfl, ⟨fun h => (by cases h), fun h => ?_⟩, rfl⟩
             exact absurd ((chk_pk h (c := x) (m := y + 1) (by omega) (by omega)).2 z.1 hzL) hc6
            ·refine .skip (.block_normal ?_)
             refine AK.then_ (hK33 _ ?_)
             refine AK.region ?_
             refine .v (.add rfl rfl (by omega)) ?_
             refine .mv rfl (.nil ?_)
             refine AK.then_ (hK30 _ _ ((z.1 + 1, ())) ⟨by dsimp only; omega, fun k hk => by dsimp only at hk; rcases Nat.lt_or_eq_of_le (Nat.le_of_lt_succ hk) with h | h; (exact hg2.2 k h); (rw [h]; exact hc6)⟩ (by dsimp only; omega) (slr) (fun w hw => hw))
           ·refine .exit (.then_exit (.then_exit (.block_exit (.block_normal ?_))))
            refine AK.then_ (hK23 _ ?_)
            refine AK.region ?_
            refine .v (.add rfl rfl (by omega)) ?_
            refine .mv rfl (.nil ?_)
            refine AK.then_ (hK20 _ _ (y + 1) ⟨by omega, fun m hm => by rcases Nat.lt_or_eq_of_le (Nat.le_of_lt_succ hm) with h | h; (exact hg1.2 m h); (subst h; exact ⟨hfe, fun k hk => hg2.2 k (by omega)⟩)⟩ (by omega) (slr) (fun w hw => hw.pick [0, 1, 2, 3, 4] (by decide) rfl rfl))
        ·refine .exit (.then_exit (.then_exit (.block_exit (.block_normal ?_))))
         refine AK.then_ (hK16 _ ?_)
         refine AK.region ?_
         refine .v (.add rfl rfl (by omega)) ?_
         refine .mv rfl (.nil ?_)
         refine AK.then_ (hK13 _ _ (x + 1) ⟨by omega, fun c m hc hm => by rcases Nat.lt_or_eq_of_le (Nat.le_of_lt_succ hc) with h | h; (exact hg0.2 c m h hm); (subst h; rcases Nat.eq_zero_or_pos m with h0 | h0; (subst h0; exact Pk.refl a b p c); (have h2 := hg1.2 (m - 1) (by omega); rw [show m - 1 + 1 = m by omega] at h2; exact h2))⟩ (by omega) (slr) (fun w hw => hw.pick [0, 1, 2, 3] (by decide) rfl rfl))
      ·refine .exit (.then_exit (.then_exit (.block_exit ?_)))
       refine AK.then_ (hK11 _ ?_)
       refine .sr fun _ hK37 => ?_
       refine .as rfl (.nt hK37 (.ret ?_))
       refine AK.ret1 rfl rfl (fun w hw => ⟨_, _, ?_, rfl, Ret.of (hw.pick [] (by decide) rfl rfl)⟩)
       refine ⟨_, rfl, ⟨fun _ => ?_, fun _ => rfl⟩, rfl⟩
       exact chk_cls hE hpl hvp hst (fun c m hc hm => hg0.2 c m (by omega) hm)

end Go.Proofs.Ytifnofnnjcchhaa
