import Derived.Test.YtoikhoniogicdaaE16
import Derived.Test.YtoikhoniogicdaaE14
import Derived.Test.YtoikhoniogicdaaE6
import Derived.Test.YtoikhoniogicdaaD17
set_option linter.unusedVariables false
set_option linter.unusedSimpArgs false
namespace Go.Proofs.Ytoikhoniogicdaa
open Go.Sx Go.RowKit
theorem opvs_evalF {C : Cx} {sl : List (Nat × Value)} {own : List Asn} {a : Act} (h : SimF C sl a) : ∀ {xs : List Operand} {vs : List Value}, opvs ⟨sl, own⟩ xs = some vs → xs.map a.eval = vs
  | [], vs, hx => by simp [opvs] at hx; simp [hx]
  | x :: l, vs, hx => by
    simp only [opvs] at hx
    cases h1 : opv ⟨sl, own⟩ x with
    | none => simp [h1] at hx
    | some v =>
      cases h2 : opvs ⟨sl, own⟩ l with
      | none => simp [h1, h2] at hx
      | some us =>
        simp [h1, h2] at hx
        subst hx
        simp [opv_evalF h h1, opvs_evalF h h2]
/-- a struct put together out of slots, whatever the memory is -/
theorem PY.build {C : Cx} {sl : List (Nat × Value)} {dst : Option Nat} {ty : TypeId} {pos : String} {aft : Array Edge} {g : Option (Nat × Bool)} {t : Nat} {parts : List (Nat × Operand)} {vs : List Value} {cs : Array Value} (hx : opvs ⟨sl, []⟩ (parts.map (·.2)) = some vs) (hb : C.P.built t ((parts.map (·.1)).zip vs) = some cs) :
    PY C sl ⟨dst, .build t parts.toArray, ty, pos, aft, g⟩ (.agg cs) :=
  fun a w hs => by
    have he := opvs_evalF hs hx
    have hp : (parts.toArray.map fun x => (x.1, a.eval x.2)) = ((parts.map (·.1)).zip vs).toArray := by
      rw [← he]; clear hx he hb
      simp
      induction parts with
      | nil => rfl
      | cons p l ih => simp [ih]
    have := run_build (P := C.P) w t ((parts.map (·.1)).zip vs).toArray cs (by simpa using hb)
    have hp' : (parts.toArray.map fun x => match x with | (i, x) => (i, a.eval x)) = ((parts.map (·.1)).zip vs).toArray := hp
    simp only [execOp, hp', Sem.run_bind, this, Result.andThen_ok, Sem.run_pure]
def MapV (d : Dfa) : List Int := if VD d then mapM d else []
def AccX (d : Dfa) : List (List UInt8) := if VD d then AccW (minD d) else []
theorem valid_len {L : Int} {l : List UInt8} (h : validW L l = true) : l.length ≤ 9223372036854775807 := by
  unfold validW at h
  rw [Bool.and_eq_true, decide_eq_true_eq] at h
  omega
theorem tests_len {m : Dfa} {ts : List (List UInt8)} (h : TestsOK m ts) : ∀ a ∈ ts, a.length ≤ 9223372036854775807 := fun a ha => valid_len (h.ok a ha)
theorem acc_len {d : Dfa} (hv : VD d) : ∀ a ∈ AccW (minD d), a.length ≤ 9223372036854775807 := fun a ha => by
  obtain ⟨i, hi, e⟩ := mem_getD [] ha
  have h1 := (acc_ok hv).run i hi
  rw [e] at h1
  have h2 := RunV_bd (d := minD d) (q := (minD d).s) (l := a) (by omega)
  exact valid_len h2.2.2.2
set_option maxHeartbeats 1000000 in
set_option maxRecDepth 100000 in
theorem s_prove (w : World) (v : Value) (d : Dfa) (h : RdD (fun _ => False) w v d) : CallS Try.prog 34 [v] w (fun r o => ∃ (vF vN vS vA vT : Value) (rs : List Value) (ts : List (List UInt8)), r = .tuple #[.agg #[.int .i64 (MinV d).L, .int .i64 (MinV d).s, vF, vN], .agg #[vS, vA, vT], .int .i64 (errV d)] ∧ rs.length = (MinV d).nx.length ∧ IsSl vF ∧ IsSl vN ∧ IsSl vS ∧ IsSl vA ∧ IsSl vT ∧ (VD d → TestsOK (minD d) ts) ∧ (¬ VD d → ts = []) ∧ o = dfaO 4 3 26 vF vN rs (MinV d) ++ [row vS 3 1 (MapV d).length ((MapV d).map (Value.int .i64)), row vA 9 1 (AccX d).length ((AccX d).map sv), row vT 9 1 ts.length (ts.map sv)]) := by
 have h0 := h
 obtain ⟨vF, vN, rfl, hF, hN⟩ := h
 have hF0 := hF
 have hN0 := hN
 obtain ⟨rs, hrl, hNr, hNi⟩ := hN
 have sF := hF.sl
 have sN := hNr.sl
 have hmf := hF.le
 have hmn := hNr.le
 unfold RdL at hF
 refine spec_of Try.func34 rfl (Nat.le_of_ble_eq_true rfl) ?_
 refine .sr fun _ hK1 => ?_
 refine AK.box_ (E := 25) (cs := [.int .i64 d.L, .int .i64 d.s, vF, vN]) rfl rfl rfl trivial rfl (fun bx1 => ?_)
 refine AK.alloc el25 rfl rfl trivial rfl (fun bx2 => ?_)
 refine AK.alloc el51 rfl rfl trivial rfl (fun bx3 => ?_)
 refine .as rfl (.nt hK1 ?_)
 refine .seq fun _ hK2 => ?_
 refine .sr fun _ hK3 => ?_
 refine .v (.loadBoxG ag25 rfl bsp rfl rfl) ?_
 refine AK.call co23 rfl (fun w hw => s_validate w _ d (h0.at hw)) trivial rfl ?_
 rintro r o ⟨rfl, rfl⟩
 refine .as rfl (.nt hK3 ?_)
 refine .sr fun _ hK4 => ?_
 refine .mv rfl ?_
 refine .v (.neq rfl rfl) ?_
 refine .nt hK4 ?_
 refine AK.condNe rfl (fun hc0 => ?_) (fun hc0 => ?_)
 ·have hnv : ¬ VD d := fun h => hc0 ((errV_iff d).2 h)
  refine .sr fun _ hK5 => ?_
  refine .v (.build (parts := []) (cs := #[.int .i64 0, .int .i64 0, .slice none 0 0, .slice none 0 0]) rfl (by kernel_rfl)) ?_
  refine .v (.build (parts := []) (cs := #[.slice none 0 0, .slice none 0 0, .slice none 0 0]) rfl (by kernel_rfl)) ?_
  refine .mv rfl ?_
  refine AK.storeBox 1 (us := [.int .i64 0, .int .i64 0, .slice none 0 0, .slice none 0 0]) (cs' := [.int .i64 0, .int .i64 0, .slice none 0 0, .slice none 0 0]) rfl sz25 rfl rfl rfl rfl oneP (Nat.le_of_ble_eq_true rfl) rfl trivial ?_
  refine AK.storeBox 2 (us := [.slice none 0 0, .slice none 0 0, .slice none 0 0]) (cs' := [.slice none 0 0, .slice none 0 0, .slice none 0 0]) rfl sz51 rfl rfl rfl rfl oneP (Nat.le_of_ble_eq_true rfl) rfl trivial ?_
  refine .as rfl (.nt hK5 (.ret (.then_ret ?_)))
  refine AK.own' (dfaO 4 3 26 (.slice none 0 0) (.slice none 0 0) [] nilD ++ [row (.slice none 0 0) 3 1 0 [], row (.slice none 0 0) 9 1 0 [], row (.slice none 0 0) 9 1 0 [], box bx2 25 4 [.int .i64 0, .int .i64 0, .slice none 0 0, .slice none 0 0], box bx3 51 3 [.slice none 0 0, .slice none 0 0, .slice none 0 0]]) (fun w hw => by have h1 := ((((((hw.pick [1, 2] (by decide) rfl rfl).ghost 4 1).ghost 26 1).ghostG (f := Value.int .i64) 3).ghost 3 1).ghost 9 1).ghost 9 1; exact h1.pick [2, 3, 4, 5, 6, 7, 0, 1] (by decide) rfl rfl) ?_
  refine AK.retG [.cell 2 25, .cell 3 51, .tmp 4] rfl (.cons (.cell ag25 rfl bsp rfl rfl) (.cons (.cell ag51 rfl bsp rfl rfl) (.cons (.tmp rfl) (.nil)))) (fun w hw => ⟨_, _, ?_, rfl, Ret.of (hw.pick [0, 1, 2, 3, 4, 5] (by decide) rfl rfl)⟩)
  rw [show MinV d = nilD from if_neg hnv, show MapV d = [] from if_neg hnv, show AccX d = [] from if_neg hnv]
  exact ⟨_, _, _, _, _, [], [], rfl, rfl, nilSl, nilSl, nilSl, nilSl, nilSl, fun h => absurd h hnv, fun _ => rfl, rfl⟩
 ·have hv : VD d := (errV_iff d).1 hc0
  refine .skip ?_
  refine AK.then_ (hK2 _ ?_)
  refine .sr fun _ hK6 => ?_
  refine .v (.loadBoxG ag25 rfl bsp rfl rfl) ?_
  refine AK.call co39 rfl (fun w hw => s_minimal w _ d (h0.at hw) hv) trivial rfl ?_
  rintro r o ⟨mF, mN, mS, mrs, rfl, hmrs, smF, smN, smS, rfl⟩
  refine .mv rfl ?_
  refine .v (.extract rfl rfl) ?_
  refine .v (.extract rfl rfl) ?_
  refine AK.alloc el25 rfl rfl trivial rfl (fun bx6 => ?_)
  refine AK.storeBox 7 (us := [.int .i64 (minD d).L, .int .i64 (minD d).s, mF, mN]) (cs' := [.int .i64 (minD d).L, .int .i64 (minD d).s, mF, mN]) rfl sz25 rfl rfl rfl rfl oneP (Nat.le_of_ble_eq_true rfl) rfl trivial ?_
  refine .as rfl (.nt hK6 ?_)
  refine .seq fun _ hK7 => ?_
  try (conv => enter [2, 2]; dsimp only [List.set_cons_zero, List.set_cons_succ, List.cons_append, List.nil_append])
  refine AK.held 7 mixed ?_
  refine HeldK.first 0 (fuel := 9) (listed' := (lb 10 1)) _ rfl krf krf rfl (Yl.loadBoxG ag25 rfl bsp rfl rfl) trivial rfl ?_
  refine HeldK.firstP 1 (fuel := 8) (listed' := (lb 10 3)) _ rfl krf krf rfl (PY.move rfl) trivial rfl ?_
  refine HeldK.first 2 (fuel := 7) (listed' := (lb 10 7)) _ rfl krf krf rfl (Yl.loadBoxG ag25 rfl bsp rfl rfl) trivial rfl ?_
  refine HeldK.first 4 (fuel := 6) (listed' := (lb 10 23)) _ rfl krf krf rfl (Yl.loadBoxG ag25 rfl bsp rfl rfl) trivial rfl ?_
  refine HeldK.one 3 (fuel := 5) (listed' := (lb 10 31)) krf rfl krf ?_
  refine AK.call co50 rfl (fun w hw => s_access w _ (minD d) (RdD.own 3 hw hmrs rfl rfl rfl)) trivial rfl ?_
  rintro vA o ⟨svA, rfl⟩
  refine .nil ?_
  try (conv => enter [2, 2]; dsimp only [List.set_cons_zero, List.set_cons_succ, List.cons_append, List.nil_append])
  refine HeldK.back Go.Sx.hle ?_
  refine HeldK.one 5 (fuel := 4) (listed' := (lb 10 63)) krf rfl krf ?_
  refine AK.call co51 rfl (fun w hw => s_tests w _ (minD d) (RdD.own 3 hw hmrs rfl rfl rfl) (min_vd hv) (fun p q hp hq he => min_red hv hp hq he)) trivial rfl ?_
  rintro vT o ⟨ts, svT, rfl, hts⟩
  refine .nil ?_
  try (conv => enter [2, 2]; dsimp only [List.set_cons_zero, List.set_cons_succ, List.cons_append, List.nil_append])
  refine HeldK.back Go.Sx.hle ?_
  refine HeldK.firstP 6 (fuel := 3) (listed' := (lb 10 127)) _ rfl krf krf rfl (PY.build (parts := [(0, .tmp 21), (1, .tmp 23), (2, .tmp 25)]) (cs := #[mS, vA, vT]) rfl (by obtain ⟨_, _, _, rfl⟩ := smS; obtain ⟨_, _, _, rfl⟩ := svA; obtain ⟨_, _, _, rfl⟩ := svT; kernel_rfl)) trivial rfl ?_
  refine HeldK.one 7 (fuel := 2) (listed' := (lb 10 255)) krf rfl krf ?_
  refine AK.storeBox 1 (us := [.int .i64 (minD d).L, .int .i64 (minD d).s, mF, mN]) (cs' := [.int .i64 (minD d).L, .int .i64 (minD d).s, mF, mN]) rfl sz25 rfl rfl rfl rfl oneP (Nat.le_of_ble_eq_true rfl) rfl trivial ?_
  refine .nil ?_
  try (conv => enter [2, 2]; dsimp only [List.set_cons_zero, List.set_cons_succ, List.cons_append, List.nil_append])
  refine HeldK.backN 8 krf rfl krf ?_
  refine AK.storeBox 2 (us := [mS, vA, vT]) (cs' := [mS, vA, vT]) rfl sz51 rfl rfl rfl rfl oneP (Nat.le_of_ble_eq_true rfl) rfl trivial ?_
  refine .as rfl (.nil ?_)
  refine AK.fromQn ?_
  refine AK.then_ (hK7 _ ?_)
  refine .ret ?_
  refine AK.retG [.cell 2 25, .cell 3 51, .tmp 4] rfl (.cons (.cell ag25 rfl bsp rfl rfl) (.cons (.cell ag51 rfl bsp rfl rfl) (.cons (.tmp rfl) (.nil)))) (fun w hw => ⟨_, _, ?_, rfl, Ret.of (hw.pick [3, 4, 5, 6, 8, 9] (by decide) rfl rfl)⟩)
  rw [show MinV d = minD d from if_pos hv, show MapV d = mapM d from if_pos hv, show AccX d = AccW (minD d) from if_pos hv, (errV_iff d).2 hv]
  exact ⟨mF, mN, mS, vA, vT, mrs, ts, rfl, hmrs, smF, smN, smS, svA, svT, fun _ => hts, fun h => absurd hv h, rfl⟩

set_option maxHeartbeats 1000000 in
set_option maxRecDepth 100000 in
theorem l_proves (w : World) (v : Value) (d : Dfa) (h : RdD (fun _ => False) w v d) : CallS Try.prog 12 [v] w (fun r o => r = .bool true ∧ o = []) := by
 have h0 := h
 obtain ⟨vF, vN, rfl, hF, hN⟩ := h
 have hF0 := hF
 have hN0 := hN
 obtain ⟨rs, hrl, hNr, hNi⟩ := hN
 have sF := hF.sl
 have sN := hNr.sl
 have hmf := hF.le
 have hmn := hNr.le
 unfold RdL at hF
 refine spec_of Try.func12 rfl (Nat.le_of_ble_eq_true rfl) ?_
 refine .sr fun _ hK1 => ?_
 refine AK.box_ (E := 25) (cs := [.int .i64 d.L, .int .i64 d.s, vF, vN]) rfl rfl rfl trivial rfl (fun bx1 => ?_)
 refine .as rfl (.nt hK1 ?_)
 refine .sr fun _ hK2 => ?_
 refine .v (.loadBoxG ag25 rfl bsp rfl rfl) ?_
 refine AK.call co34 rfl (fun w hw => s_prove w _ d (h0.at hw)) trivial rfl ?_
 rintro r o ⟨mF, mN, mS, vA, vT, mrs, ts, rfl, hmrs, smF, smN, smS, svA, svT, hts, hts0, rfl⟩
 refine .mv rfl ?_
 refine .v (.extract rfl rfl) ?_
 refine .v (.extract rfl rfl) ?_
 refine .v (.extract rfl rfl) ?_
 refine AK.alloc el25 rfl rfl trivial rfl (fun bx3 => ?_)
 refine AK.alloc el51 rfl rfl trivial rfl (fun bx4 => ?_)
 refine AK.storeBox 7 (us := [.int .i64 (MinV d).L, .int .i64 (MinV d).s, mF, mN]) (cs' := [.int .i64 (MinV d).L, .int .i64 (MinV d).s, mF, mN]) rfl sz25 rfl rfl rfl rfl oneP (Nat.le_of_ble_eq_true rfl) rfl trivial ?_
 refine AK.storeBox 8 (us := [mS, vA, vT]) (cs' := [mS, vA, vT]) rfl sz51 rfl rfl rfl rfl oneP (Nat.le_of_ble_eq_true rfl) rfl trivial ?_
 refine .as rfl (.nt hK2 ?_)
 refine .seq fun _ hK3 => ?_
 refine .sr fun _ hK4 => ?_
 refine .v (.loadBoxG ag25 rfl bsp rfl rfl) ?_
 refine AK.call co15 rfl (fun w hw => s_refvalidate w _ d (h0.at hw)) trivial rfl ?_
 rintro r o ⟨rfl, rfl⟩
 refine .as rfl (.nt hK4 ?_)
 refine .sr fun _ hK5 => ?_
 refine .mv rfl ?_
 refine .v (.neq rfl rfl) ?_
 refine .nt hK5 ?_
 refine AK.condNe rfl (fun hc0 => ?_) (fun hc0 => ?_)
 ·have hnv : ¬ VD d := fun h => hc0 ((errV_iff d).2 h)
  have e1 : MinV d = nilD := if_neg hnv
  have e2 : MapV d = [] := if_neg hnv
  have e3 : AccX d = [] := if_neg hnv
  have e4 := hts0 hnv
  have l2 : (MapV d).length = 0 := by rw [e2]; rfl
  have l3 : (AccX d).length = 0 := by rw [e3]; rfl
  have l4 : ts.length = 0 := by rw [e4]; rfl
  refine .sr fun _ hK6 => ?_
  refine .mv rfl (.mv rfl ?_)
  refine .v (.eql rfl rfl) ?_
  refine .mv rfl ?_
  refine AK.knownT (g := 20) rfl (decide_eq_true rfl) (fun hg_4_3 => ?_)
  refine AK.val _ (Yl.loadBoxG ag25 rfl bsp rfl rfl) ⟨_, rfl, congrArg (fun b => some (Value.bool b)) hg_4_3⟩ rfl ?_
  refine AK.val _ (Yl.build (parts := []) (cs := #[.int .i64 0, .int .i64 0, .slice none 0 0, .slice none 0 0]) rfl (by kernel_rfl)) ⟨_, rfl, congrArg (fun b => some (Value.bool b)) hg_4_3⟩ rfl ?_
  refine AK.call co20 rfl (fun w hw => s_sameD w _ _ (MinV d) nilD (RdD.own 1 hw hmrs rfl rfl rfl) rd_nilD) ⟨_, rfl, congrArg (fun b => some (Value.bool b)) hg_4_3⟩ rfl ?_
  rintro r o ⟨rfl, rfl⟩
  refine .v (.pickT rfl (hg_4_3) rfl) ?_
  refine .mv rfl ?_
  refine AK.knownT (g := 25) rfl (decide_eq_true e1) (fun hg_4_8 => ?_)
  refine AK.val _ (Yl.fieldAddr fd51_0 rfl) ⟨_, rfl, congrArg (fun b => some (Value.bool b)) hg_4_8⟩ rfl ?_
  refine AK.val _ (Yl.loadBox on26 rfl bsp rfl) ⟨_, rfl, congrArg (fun b => some (Value.bool b)) hg_4_8⟩ rfl ?_
  refine AK.val _ (Yl.lenR sl26 rfl rdp) ⟨_, rfl, congrArg (fun b => some (Value.bool b)) hg_4_8⟩ rfl ?_
  refine AK.val _ (Yl.fieldAddr fd51_1 rfl) ⟨_, rfl, congrArg (fun b => some (Value.bool b)) hg_4_8⟩ rfl ?_
  refine AK.val _ (Yl.loadBox on49 rfl bsp rfl) ⟨_, rfl, congrArg (fun b => some (Value.bool b)) hg_4_8⟩ rfl ?_
  refine AK.val _ (Yl.lenR sl49 rfl rdp) ⟨_, rfl, congrArg (fun b => some (Value.bool b)) hg_4_8⟩ rfl ?_
  refine AK.val _ (Yl.add rfl rfl (by omega)) ⟨_, rfl, congrArg (fun b => some (Value.bool b)) hg_4_8⟩ rfl ?_
  refine AK.val _ (Yl.fieldAddr fd51_2 rfl) ⟨_, rfl, congrArg (fun b => some (Value.bool b)) hg_4_8⟩ rfl ?_
  refine AK.val _ (Yl.loadBox on49 rfl bsp rfl) ⟨_, rfl, congrArg (fun b => some (Value.bool b)) hg_4_8⟩ rfl ?_
  refine AK.val _ (Yl.lenR sl49 rfl rdp) ⟨_, rfl, congrArg (fun b => some (Value.bool b)) hg_4_8⟩ rfl ?_
  refine AK.val _ (Yl.add rfl rfl (by omega)) ⟨_, rfl, congrArg (fun b => some (Value.bool b)) hg_4_8⟩ rfl ?_
  refine AK.val _ (Yl.eql rfl rfl) ⟨_, rfl, congrArg (fun b => some (Value.bool b)) hg_4_8⟩ rfl ?_
  refine .v (.pickT rfl (hg_4_8) rfl) ?_
  refine .mv rfl ?_
  refine AK.knownT (g := 39) rfl (decide_eq_true (by omega)) (fun hg_4_22 => ?_)
  refine AK.call co16 rfl (fun w hw => s_awake w) ⟨_, rfl, congrArg (fun b => some (Value.bool b)) hg_4_22⟩ rfl ?_
  rintro r o ⟨rfl, rfl⟩
  refine .v (.pickT rfl (hg_4_22) rfl) ?_
  refine .as rfl (.nt hK6 (.ret (.then_ret ?_)))
  refine AK.ret1 rfl rfl (fun w hw => ⟨_, _, ?_, rfl, Ret.of (hw.pick [] (by decide) rfl rfl)⟩)
  exact ⟨rfl, rfl⟩
 ·have hv : VD d := (errV_iff d).1 hc0
  have e1 : MinV d = minD d := if_pos hv
  have e2 : MapV d = mapM d := if_pos hv
  have e3 : AccX d = AccW (minD d) := if_pos hv
  have hck : ChkP d (MinV d) (MapV d) (AccX d) ts := by rw [e1, e2, e3]; exact prove_ok hv (hts hv)
  have hla : ∀ a ∈ AccX d, a.length ≤ 9223372036854775807 := by rw [e3]; exact acc_len hv
  have hlt := tests_len (hts hv)
  refine .skip ?_
  refine AK.then_ (hK3 _ ?_)
  refine .seq fun _ hK7 => ?_
  refine .sr fun _ hK8 => ?_
  refine .v (.fieldAddr fd25_2 rfl) ?_
  refine .v (.loadBox on22 rfl bsp rfl) ?_
  refine .v (.lenR sl22 rfl rdp) ?_
  refine .v (.gtr rfl rfl) ?_
  refine .nt hK8 ?_
  refine AK.condD rfl (fun hc1 => ?_) (fun hc1 => ?_)
  ·refine .sr fun _ hK9 => ?_
   refine AK.call co16 rfl (fun w hw => s_awake w) trivial rfl ?_
   rintro r o ⟨rfl, rfl⟩
   refine .as rfl (.nt hK9 (.ret (.then_ret ?_)))
   refine AK.ret1 rfl rfl (fun w hw => ⟨_, _, ?_, rfl, Ret.of (hw.pick [] (by decide) rfl rfl)⟩)
   exact ⟨rfl, rfl⟩
  ·refine .skip ?_
   refine AK.then_ (hK7 _ ?_)
   refine .seq fun _ hK10 => ?_
   try (conv => enter [2, 2]; dsimp only [List.set_cons_zero, List.set_cons_succ, List.cons_append, List.nil_append])
   refine AK.held 24 mixed ?_
   refine HeldK.first 0 (fuel := 23) (listed' := (lb 24 1)) _ rfl krf krf rfl (Yl.move rfl) trivial rfl ?_
   refine HeldK.first 1 (fuel := 22) (listed' := (lb 24 3)) _ rfl krf krf rfl (Yl.eql rfl rfl) trivial rfl ?_
   refine HeldK.first 2 (fuel := 21) (listed' := (lb 24 7)) _ rfl krf krf rfl (Yl.move rfl) trivial rfl ?_
   refine AK.knownT (g := 49) rfl (decide_eq_true hc0) (fun hg_7_2 => ?_)
   refine HeldK.first 3 (fuel := 20) (listed' := (lb 24 15)) _ rfl krf krf rfl (Yl.loadBoxG ag25 rfl bsp rfl rfl) ⟨_, rfl, congrArg (fun b => some (Value.bool b)) hg_7_2⟩ rfl ?_
   refine HeldK.first 4 (fuel := 19) (listed' := (lb 24 31)) _ rfl krf krf rfl (Yl.loadBoxG ag25 rfl bsp rfl rfl) ⟨_, rfl, congrArg (fun b => some (Value.bool b)) hg_7_2⟩ rfl ?_
   refine HeldK.one 5 (fuel := 18) (listed' := (lb 24 63)) krf rfl krf ?_
   refine AK.call co21 rfl (fun w hw => s_refmin w _ d (h0.at hw) hv) ⟨_, rfl, congrArg (fun b => some (Value.bool b)) hg_7_2⟩ rfl ?_
   rintro r o ⟨uF, uN, urs, rfl, hurs, suF, suN, rfl⟩
   refine .nil ?_
   try (conv => enter [2, 2]; dsimp only [List.set_cons_zero, List.set_cons_succ, List.cons_append, List.nil_append])
   refine HeldK.back Go.Sx.hle ?_
   refine HeldK.one 6 (fuel := 17) (listed' := (lb 24 127)) krf rfl krf ?_
   refine AK.call co20 rfl (fun w hw => s_sameD w _ _ (MinV d) (minD d) (RdD.own 1 hw hmrs rfl rfl rfl) (RdD.own 9 hw hurs rfl rfl rfl)) ⟨_, rfl, congrArg (fun b => some (Value.bool b)) hg_7_2⟩ rfl ?_
   rintro r o ⟨rfl, rfl⟩
   refine .nil ?_
   try (conv => enter [2, 2]; dsimp only [List.set_cons_zero, List.set_cons_succ, List.cons_append, List.nil_append])
   refine HeldK.back Go.Sx.hle ?_
   refine HeldK.first 7 (fuel := 16) (listed' := (lb 24 255)) _ rfl krf krf rfl (Yl.pickT rfl (hg_7_2) rfl) trivial rfl ?_
   refine HeldK.first 8 (fuel := 15) (listed' := (lb 24 511)) _ rfl krf krf rfl (Yl.move rfl) trivial rfl ?_
   refine AK.knownT (g := 55) rfl (decide_eq_true e1) (fun hg_7_8 => ?_)
   refine HeldK.first 9 (fuel := 14) (listed' := (lb 24 1023)) _ rfl krf krf rfl (Yl.loadBoxG ag25 rfl bsp rfl rfl) ⟨_, rfl, congrArg (fun b => some (Value.bool b)) hg_7_8⟩ rfl ?_
   refine HeldK.first 10 (fuel := 13) (listed' := (lb 24 2047)) _ rfl krf krf rfl (Yl.loadBoxG ag25 rfl bsp rfl rfl) ⟨_, rfl, congrArg (fun b => some (Value.bool b)) hg_7_8⟩ rfl ?_
   refine HeldK.first 11 (fuel := 12) (listed' := (lb 24 4095)) _ rfl krf krf rfl (Yl.loadBoxG ag51 rfl bsp rfl rfl) ⟨_, rfl, congrArg (fun b => some (Value.bool b)) hg_7_8⟩ rfl ?_
   refine HeldK.one 12 (fuel := 11) (listed' := (lb 24 8191)) krf rfl krf ?_
   refine AK.call co33 rfl (fun w hw => s_refcheck w _ d (h0.at hw) _ (MinV d) (RdD.own 1 hw hmrs rfl rfl rfl) _ _ _ (MapV d) (AccX d) ts (RdL.own 4 hw rfl) (RdL.own 5 hw rfl) hla (RdL.own 6 hw rfl) hlt) ⟨_, rfl, congrArg (fun b => some (Value.bool b)) hg_7_8⟩ rfl ?_
   rintro r o ⟨b1, rfl, hb1, rfl⟩
   refine .nil ?_
   try (conv => enter [2, 2]; dsimp only [List.set_cons_zero, List.set_cons_succ, List.cons_append, List.nil_append])
   refine HeldK.back Go.Sx.hle ?_
   refine HeldK.first 13 (fuel := 10) (listed' := (lb 24 16383)) _ rfl krf krf rfl (Yl.pickT rfl (hg_7_8) rfl) trivial rfl ?_
   refine HeldK.first 14 (fuel := 9) (listed' := (lb 24 32767)) _ rfl krf krf rfl (Yl.move rfl) trivial rfl ?_
   refine AK.knownT (g := 61) rfl (hb1.2 hck) (fun hg_7_14 => ?_)
   refine HeldK.first 15 (fuel := 8) (listed' := (lb 24 65535)) _ rfl krf krf rfl (Yl.loadBoxG ag25 rfl bsp rfl rfl) ⟨_, rfl, congrArg (fun b => some (Value.bool b)) hg_7_14⟩ rfl ?_
   refine HeldK.first 16 (fuel := 7) (listed' := (lb 24 131071)) _ rfl krf krf rfl (Yl.loadBoxG ag25 rfl bsp rfl rfl) ⟨_, rfl, congrArg (fun b => some (Value.bool b)) hg_7_14⟩ rfl ?_
   refine HeldK.first 17 (fuel := 6) (listed' := (lb 24 262143)) _ rfl krf krf rfl (Yl.loadBoxG ag51 rfl bsp rfl rfl) ⟨_, rfl, congrArg (fun b => some (Value.bool b)) hg_7_14⟩ rfl ?_
   refine HeldK.one 18 (fuel := 5) (listed' := (lb 24 524287)) krf rfl krf ?_
   refine AK.call co32 rfl (fun w hw => s_check w _ d (h0.at hw) _ (MinV d) (RdD.own 1 hw hmrs rfl rfl rfl) _ _ _ (MapV d) (AccX d) ts (RdL.own 4 hw rfl) (RdL.own 5 hw rfl) hla (RdL.own 6 hw rfl) hlt) ⟨_, rfl, congrArg (fun b => some (Value.bool b)) hg_7_14⟩ rfl ?_
   rintro r o ⟨b2, rfl, hb2, rfl⟩
   refine .nil ?_
   try (conv => enter [2, 2]; dsimp only [List.set_cons_zero, List.set_cons_succ, List.cons_append, List.nil_append])
   refine HeldK.back Go.Sx.hle ?_
   refine HeldK.first 19 (fuel := 4) (listed' := (lb 24 1048575)) _ rfl krf krf rfl (Yl.pickT rfl (hg_7_14) rfl) trivial rfl ?_
   refine HeldK.first 20 (fuel := 3) (listed' := (lb 24 2097151)) _ rfl krf krf rfl (Yl.move rfl) trivial rfl ?_
   refine HeldK.one 21 (fuel := 2) (listed' := (lb 24 4194303)) krf rfl krf ?_
   refine AK.knownT (g := 67) rfl (hb2.2 hck) (fun hg_7_20 => ?_)
   refine AK.call co16 rfl (fun w hw => s_awake w) ⟨_, rfl, congrArg (fun b => some (Value.bool b)) hg_7_20⟩ rfl ?_
   rintro r o ⟨rfl, rfl⟩
   refine .nil ?_
   try (conv => enter [2, 2]; dsimp only [List.set_cons_zero, List.set_cons_succ, List.cons_append, List.nil_append])
   refine HeldK.back Go.Sx.hle ?_
   refine HeldK.first 22 (fuel := 1) (listed' := (lb 24 8388607)) _ rfl krf krf rfl (Yl.pickT rfl (hg_7_20) rfl) trivial rfl ?_
   refine HeldK.first 23 (fuel := 0) (listed' := (lb 24 16777215)) _ rfl krf krf rfl (Yl.assign rfl) trivial rfl ?_
   refine HeldK.done krf ?_
   refine AK.then_ (hK10 _ ?_)
   refine .ret ?_
   refine AK.ret1 rfl rfl (fun w hw => ⟨_, _, ?_, rfl, Ret.of (hw.pick [] (by decide) rfl rfl)⟩)
   exact ⟨rfl, rfl⟩

end Go.Proofs.Ytoikhoniogicdaa
