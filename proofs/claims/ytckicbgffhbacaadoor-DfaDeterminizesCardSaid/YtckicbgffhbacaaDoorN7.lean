import Derived.Test.YtckicbgffhbacaaDoorN6
set_option linter.unusedVariables false
set_option linter.unusedSimpArgs false
namespace Go.Proofs.YtckicbgffhbacaaDoor
open Go.Sx Go.RowKit
set_option maxHeartbeats 2000000 in
set_option maxRecDepth 100000 in
theorem s_refsubset (w : World) (v : Value) (n : Nfa) (h : RdN (fun _ => False) w v n) (U : List W64) (hU : VN n → UOk n U) : CallS Tryd.prog 9 [v] w (fun r o => ∃ (vF vN vS : Value) (rs : List Value), r = .tuple #[.agg #[.int .i64 (SubV n U).L, .int .i64 (SubV n U).s, vF, vN], vS, .int .i64 (errN n)] ∧ rs.length = (SubV n U).nx.length ∧ IsSl vF ∧ IsSl vN ∧ IsSl vS ∧ o = dfaO 4 3 41 vF vN rs (SubV n U) ++ [row vS 22 1 (SetV n U).length ((SetV n U).map uv)]) := by
 have h0 := h
 obtain ⟨vE, rfl, hE⟩ := h
 have sE := Rd.sl hE
 have hme := Rd.le hE
 refine spec_of Tryd.func9 rfl (Nat.le_of_ble_eq_true rfl) ?_
 refine .sr fun _ hK1 => ?_
 refine AK.box_ (E := 25) (cs := [.int .i64 n.L, .int .i64 n.S, uv n.st, uv n.fi, vE]) rfl rfl rfl trivial rfl (fun bx1 => ?_)
 refine AK.alloc el32 rfl rfl trivial rfl (fun bx2 => ?_)
 refine .as rfl (.as rfl (.nt hK1 ?_))
 refine .seq fun _ hK2 => ?_
 refine .sr fun _ hK3 => ?_
 refine .v (.loadBoxG ag25 rfl bsp rfl rfl) ?_
 refine AK.call co6 rfl (fun w hw => s_nrefvalidate w _ n (h0.at hw)) trivial rfl ?_
 rintro r o ⟨rfl, rfl⟩
 refine .as rfl (.nt hK3 ?_)
 refine .sr fun _ hK4 => ?_
 refine .mv rfl ?_
 refine .v (.neq rfl rfl) ?_
 refine .nt hK4 ?_
 refine AK.condNe rfl (fun hc0 => ?_) (fun hc0 => ?_)
 ·refine .sr fun _ hK5 => ?_
  refine .v (.build (parts := []) (cs := #[.int .i64 0, .int .i64 0, .slice none 0 0, .slice none 0 0]) rfl (by kernel_rfl)) ?_
  refine .mv rfl ?_
  refine AK.storeBox 1 (us := [.int .i64 0, .int .i64 0, .slice none 0 0, .slice none 0 0]) (cs' := [.int .i64 0, .int .i64 0, .slice none 0 0, .slice none 0 0]) rfl sz32 rfl rfl rfl rfl oneP (Nat.le_of_ble_eq_true rfl) rfl trivial ?_
  refine .as rfl (.as rfl (.nt hK5 (.ret (.then_ret ?_))))
  refine AK.own' (dfaO 4 3 41 (.slice none 0 0) (.slice none 0 0) [] nilD ++ [row (.slice none 0 0) 22 1 0 [], box bx2 32 4 [.int .i64 0, .int .i64 0, .slice none 0 0, .slice none 0 0]]) (fun w hw => by have h1 := ((((hw.pick [1] (by decide) rfl rfl).ghost 4 1).ghost 41 1).ghostG (f := Value.int .i64) 3).ghost 22 1; exact h1.pick [1, 2, 3, 4, 0] (by decide) rfl rfl) ?_
  refine AK.retG [.cell 2 32, .tmp 3, .tmp 4] rfl (.cons (.cell ag32 rfl bsp rfl rfl) (.cons (.tmp rfl) (.cons (.tmp rfl) (.nil)))) (fun w hw => ⟨_, _, ?_, rfl, Ret.of (hw.pick [0, 1, 2, 3] (by decide) rfl rfl)⟩)
  have e1 : SubV n U = nilD := if_neg (by omega)
  have e2 : SetV n U = [] := if_neg (by omega)
  rw [e1, e2]
  exact ⟨.slice none 0 0, .slice none 0 0, .slice none 0 0, [], rfl, rfl, nilSl, nilSl, nilSl, rfl⟩
 ·have hE : errN n = 0 := (by omega)
  have hv : VN n := errN_iff.1 hE
  have hL := hv.L
  have hLL : ((n.L.toNat : Nat) : Int) = n.L := (by omega)
  obtain ⟨hs, hU5, hf⟩ := hU hv
  have hok := exI_ok (z := (0 : W64)) hs hf
  have hbd := exI_bd (z := (0 : W64)) hs hf
  refine .skip ?_
  refine AK.then_ (hK2 _ ?_)
  refine .sr fun _ hK6 => ?_
  refine .v (.fieldAddr fd25_2 rfl) ?_
  refine .v (.loadBox on22 rfl bsp rfl) ?_
  refine AK.lit (xs := [.tmp 22]) sl33 el22 rfl rfl rfl (by intro a ha; simp at ha; subst ha; rfl) (by decide) (by decide) trivial rfl (fun lp => ?_)
  refine AK.shape 2 rfl (fun slp => ?_)
  refine .as rfl (.nt hK6 ?_)
  refine .sr fun _ hK7 => ?_
  refine AK.makeMap trivial rfl (fun mb => ?_)
  refine .v (.fieldAddr fd25_2 rfl) ?_
  refine .v (.loadBox on22 rfl bsp rfl) ?_
  refine AK.mapIns 3 (m := ([] : List (W64 × Int))) (a := n.st) (v := 0) rfl mp61 (keyU un22) rfl rfl rfl trivial ?_
  refine .mv rfl (.as rfl (.nt hK7 ?_))
  refine .sr fun _ hK8 => ?_
  refine .v (.fieldAddr fd25_0 rfl) ?_
  refine .v (.loadBox on3 rfl bsp rfl) ?_
  refine .v (.build (parts := [(0, .tmp 29)]) (cs := #[.int .i64 n.L, .int .i64 0, .slice none 0 0, .slice none 0 0]) rfl (by kernel_rfl)) ?_
  refine AK.alloc el32 rfl rfl trivial rfl (fun bx8 => ?_)
  refine AK.storeBox 4 (us := [.int .i64 n.L, .int .i64 0, .slice none 0 0, .slice none 0 0]) (cs' := [.int .i64 n.L, .int .i64 0, .slice none 0 0, .slice none 0 0]) rfl sz32 rfl rfl rfl rfl oneP (Nat.le_of_ble_eq_true rfl) rfl trivial ?_
  refine .nt hK8 ?_
  refine .seq fun _ hK9 => ?_
  refine .sr fun _ hK10 => ?_
  refine .as rfl (.nt hK10 (.block ?_))
  refine AK.loopK (X := Nat × Value × Value × Value × List Value) [(1, _), (2, _), (7, _), (8, _)] (fun x => [(6, x.2.1), (9, .int .i64 (x.1 : Int))]) (fun x => [box bx1 25 5 [.int .i64 n.L, .int .i64 n.S, uv n.st, uv n.fi, vE], box bx2 32 4 [.int .i64 0, .int .i64 0, .slice none 0 0, .slice none 0 0], row x.2.1 22 1 (exI (fS n) n.L.toNat n.st 0 x.1).length ((exI (fS n) n.L.toNat n.st 0 x.1).map uv), mapA mb (mkv uv (Value.int .i64) (numM (exI (fS n) n.L.toNat n.st 0 x.1))), box bx8 32 4 [.int .i64 n.L, .int .i64 0, x.2.2.1, x.2.2.2.1], row x.2.2.1 4 1 x.1 ((exG (fS n) n.L.toNat n.st 0 (gS n) x.1).map Value.bool), row x.2.2.2.1 41 1 x.1 x.2.2.2.2, bigA (matG (Value.int .i64) 3 x.2.2.2.2 (exN (fS n) n.L.toNat n.st 0 x.1))]) (fun x => x.1 ≤ (exI (fS n) n.L.toNat n.st 0 x.1).length ∧ x.2.2.2.2.length = x.1 ∧ IsSl x.2.1 ∧ IsSl x.2.2.1 ∧ IsSl x.2.2.2.1) (fun x => U.length - x.1) ((0, lp, .slice none 0 0, .slice none 0 0, [])) slr ?_ ?_ ?_ ?_
  ·exact ⟨Nat.zero_le _, rfl, slp, nilSl, nilSl⟩
  ·exact slr
  ·exact fun w hw => by have h1 := ((hw.ghostG (f := Value.int .i64) 3).ghost 4 1).ghost 41 1; exact h1.pick [0, 1, 2, 3, 4, 6, 7, 5] (by decide) rfl rfl
  ·intro x hg0 _ hK11
   have hb0 := hbd x.1
   have hsF := hg0.2.2.2.1
   have hsN := hg0.2.2.2.2
   refine .seq fun _ hK12 => ?_
   refine .sr fun _ hK13 => ?_
   refine .mv rfl (.mv rfl ?_)
   refine .v (.lenR sl33 rfl rdp) ?_
   refine .v (.lss rfl rfl) ?_
   refine .nt hK13 ?_
   refine AK.condD rfl (fun hc1 => ?_) (fun hc1 => ?_)
   ·have hlt : x.1 < (exI (fS n) n.L.toNat n.st 0 x.1).length := (by omega)
    have hqU := (hok x.1).2 _ (getD_mem (d := (0 : W64)) hlt)
    have hrb := fun k hk => exR_bd (z := (0 : W64)) hs hf (k := k) hlt hk
    refine .skip ?_
    refine AK.then_ (hK12 _ ?_)
    refine .seq fun _ hK14 => ?_
    refine .block ?_
    refine .sr fun _ hK15 => ?_
    refine .as rfl (.nt hK15 ?_)
    refine .seq fun _ hK16 => ?_
    refine .sr fun _ hK17 => ?_
    refine .as rfl (.nt hK17 (.block ?_))
    refine AK.loopK (X := Nat × Value × Value) [(1, _), (2, _), (7, _), (8, _), (9, _)] (fun y => [(6, y.2.1), (10, y.2.2), (11, .int .i64 (y.1 : Int))]) (fun y => [box bx1 25 5 [.int .i64 n.L, .int .i64 n.S, uv n.st, uv n.fi, vE], box bx2 32 4 [.int .i64 0, .int .i64 0, .slice none 0 0, .slice none 0 0], row y.2.1 22 1 (exR (fS n) ((exI (fS n) n.L.toNat n.st 0 x.1).getD x.1 0) (exI (fS n) n.L.toNat n.st 0 x.1) y.1).length ((exR (fS n) ((exI (fS n) n.L.toNat n.st 0 x.1).getD x.1 0) (exI (fS n) n.L.toNat n.st 0 x.1) y.1).map uv), mapA mb (mkv uv (Value.int .i64) (numM (exR (fS n) ((exI (fS n) n.L.toNat n.st 0 x.1).getD x.1 0) (exI (fS n) n.L.toNat n.st 0 x.1) y.1))), box bx8 32 4 [.int .i64 n.L, .int .i64 0, x.2.2.1, x.2.2.2.1], row x.2.2.1 4 1 x.1 ((exG (fS n) n.L.toNat n.st 0 (gS n) x.1).map Value.bool), row x.2.2.2.1 41 1 x.1 x.2.2.2.2, bigA (matG (Value.int .i64) 3 x.2.2.2.2 (exN (fS n) n.L.toNat n.st 0 x.1)), row y.2.2 3 1 y.1 ((exW (fS n) ((exI (fS n) n.L.toNat n.st 0 x.1).getD x.1 0) (exI (fS n) n.L.toNat n.st 0 x.1) y.1).map (Value.int .i64))]) (fun y => (y.1 : Int) ≤ n.L ∧ IsSl y.2.1 ∧ IsSl y.2.2) (fun y => n.L.toNat - y.1) ((0, x.2.1, .slice none 0 0)) slr ?_ ?_ ?_ ?_
    ·exact ⟨by dsimp only; omega, hg0.2.2.1, nilSl⟩
    ·exact slr
    ·exact fun w hw => by exact (hw.ghost 3 1)
    ·intro y hg1 _ hK18
     refine .seq fun _ hK19 => ?_
     refine .sr fun _ hK20 => ?_
     refine .mv rfl ?_
     refine .v (.fieldAddr fd25_0 rfl) ?_
     refine .v (.loadBox on3 rfl bsp rfl) ?_
     refine .v (.lss rfl rfl) ?_
     refine .nt hK20 ?_
     refine AK.condD rfl (fun hc2 => ?_) (fun hc2 => ?_)
     ·have hrb1 := hrb y.1 (by omega)
      refine .skip ?_
      refine AK.then_ (hK19 _ ?_)
      refine .seq fun _ hK21 => ?_
      refine .block ?_
      refine .seq fun _ hK22 => ?_
      refine AK.quiet mixed krf ?_
      refine .v (.loadBoxG ag25 rfl bsp rfl rfl) ?_
      refine .mv rfl (.mv rfl ?_)
      first | refine .v (.iN sl33 rfl rfl (h0 := (exR_lt hlt _))) ?_ | refine .v (.iK sl33 rfl rfl (h0 := (exR_lt hlt _))) ?_
      refine .v (.valE (v' := uv ((exI (fS n) n.L.toNat n.st 0 x.1).getD x.1 0)) (Yl.loadU on22 rfl rdp (exR_lt hlt _)) (congrArg uv (exR_get hlt _))) ?_
      refine .mv rfl ?_
      refine QK.call (uv (fS n ((exI (fS n) n.L.toNat n.st 0 x.1).getD x.1 0) y.1)) co28 rfl (fun w hw => s_refstep w _ n (h0.at hw) hv ((exI (fS n) n.L.toNat n.st 0 x.1).getD x.1 0) (y.1 : Int)) (fun v o h => h.1) trivial rfl ?_
      refine .as rfl ?_
      refine QK.nil (QK.fin ?_)
      refine AK.then_ (hK22 _ ?_)
      refine .sr fun _ hK23 => ?_
      refine .mv rfl (.mv rfl ?_)
      refine .v (.lookup2I mp61 (keyU un22) el3 rfl rfl msp) ?_
      refine .mv rfl ?_
      refine .v (.extract rfl rfl) ?_
      refine .v (.extract rfl rfl) ?_
      refine .as rfl (.as rfl (.nt hK23 ?_))
      refine .seq fun _ hK24 => ?_
      refine .sr fun _ hK25 => ?_
      refine .mv rfl ?_
      refine .v (.not rfl) ?_
      refine .nt hK25 ?_
      refine AK.condB rfl (fun hc3 => ?_) (fun hc3 => ?_)
      ·have hx : (fS n ((exI (fS n) n.L.toNat n.st 0 x.1).getD x.1 0) y.1) ∉ (exR (fS n) ((exI (fS n) n.L.toNat n.st 0 x.1).getD x.1 0) (exI (fS n) n.L.toNat n.st 0 x.1) y.1) := by
        rw [mget_numM] at hc3; intro h; rw [if_pos h] at hc3; cases hc3
       have hex : (exR (fS n) ((exI (fS n) n.L.toNat n.st 0 x.1).getD x.1 0) (exI (fS n) n.L.toNat n.st 0 x.1) (y.1 + 1)) = (exR (fS n) ((exI (fS n) n.L.toNat n.st 0 x.1).getD x.1 0) (exI (fS n) n.L.toNat n.st 0 x.1) y.1) ++ [(fS n ((exI (fS n) n.L.toNat n.st 0 x.1).getD x.1 0) y.1)] := if_neg hx
       have hrb2 := hrb (y.1 + 1) (by omega)
       rw [hex, List.length_append] at hrb2
       simp only [List.length_cons, List.length_nil] at hrb2
       have hpos : ((posN (exR (fS n) ((exI (fS n) n.L.toNat n.st 0 x.1).getD x.1 0) (exI (fS n) n.L.toNat n.st 0 x.1) y.1) (fS n ((exI (fS n) n.L.toNat n.st 0 x.1).getD x.1 0) y.1) : Nat) : Int) = ((exR (fS n) ((exI (fS n) n.L.toNat n.st 0 x.1).getD x.1 0) (exI (fS n) n.L.toNat n.st 0 x.1) y.1).length : Int) := (by rw [posN_not hx])
       refine .seq fun _ hK26 => ?_
       refine .sr fun _ hK27 => ?_
       refine .mv rfl ?_
       refine .v (.lenR sl33 rfl rdp) ?_
       refine .v (.eql rfl rfl) ?_
       refine .nt hK27 ?_
       refine AK.cond_f rfl (decide_eq_false (by omega)) ?_
       refine .skip ?_
       refine AK.then_ (hK26 _ ?_)
       refine .sr fun _ hK28 => ?_
       refine .mv rfl ?_
       refine .v (.lenR sl33 rfl rdp) ?_
       refine .as rfl (.nt hK28 ?_)
       refine .sr fun _ hK29 => ?_
       refine .mv rfl (.mv rfl (.mv rfl ?_))
       refine AK.mapSet 3 (a := (fS n ((exI (fS n) n.L.toNat n.st 0 x.1).getD x.1 0) y.1)) rfl mp61 (keyU un22) rfl rfl rfl trivial ?_
       refine .nt hK29 ?_
       refine AK.region ?_
       refine .mv rfl (.mv rfl ?_)
       refine AK.append1 2 rfl sl33 el22 rfl (by decide) rfl (by intro k hk; cases hk; rfl) rfl (by intro u hu; replace hu : u ∈ [uv (fS n ((exI (fS n) n.L.toNat n.st 0 x.1).getD x.1 0) y.1)] := hu; rw [List.mem_singleton] at hu; subst hu; rfl) (by omega) (by omega) (by decide) rfl rfl (fun va _ ha2 => ?_)
       refine .as rfl (.nt hK24 ?_)
       refine AK.region ?_
       refine .mv rfl (.mv rfl ?_)
       refine AK.append1 8 rfl sl41 el3 rfl (by decide) rfl (by intro k hk; cases hk; rfl) rfl (by intro u hu; simp [Value.cells] at hu; subst hu; rfl) (by omega) (by omega) (by decide) rfl rfl (fun vr2 _ hr2 => ?_)
       refine .as rfl (.nil (.block_normal ?_))
       refine AK.then_ (hK21 _ ?_)
       refine AK.region ?_
       refine .mv rfl ?_
       refine .v (.add rfl rfl (by omega)) ?_
       refine .as rfl (.nil ?_)
       first | refine AK.then_ (hK18 _ _ ((y.1 + 1, va, vr2)) ⟨by dsimp only; omega, ha2, hr2⟩ (by dsimp only; omega) (slr) (fun w hw => by
  dsimp only
  rw [hex, show (exW (fS n) ((exI (fS n) n.L.toNat n.st 0 x.1).getD x.1 0) (exI (fS n) n.L.toNat n.st 0 x.1) (y.1 + 1)) = (exW (fS n) ((exI (fS n) n.L.toNat n.st 0 x.1).getD x.1 0) (exI (fS n) n.L.toNat n.st 0 x.1) y.1) ++ [((posN (exR (fS n) ((exI (fS n) n.L.toNat n.st 0 x.1).getD x.1 0) (exI (fS n) n.L.toNat n.st 0 x.1) y.1) (fS n ((exI (fS n) n.L.toNat n.st 0 x.1).getD x.1 0) y.1) : Nat) : Int)] from rfl, hpos, ← mset_numM hx, List.map_append, List.map_append, List.length_append]
  exact hw.pick [0, 1, 2, 3, 4, 5, 6, 7, 8] (by decide) rfl rfl)) | refine AK.then_ (hK18 _ _ ((y.1 + 1, y.2.1, vr2)) ⟨by dsimp only; omega, hg1.2.1, hr2⟩ (by dsimp only; omega) (slr) (fun w hw => by
  dsimp only
  rw [hex, show (exW (fS n) ((exI (fS n) n.L.toNat n.st 0 x.1).getD x.1 0) (exI (fS n) n.L.toNat n.st 0 x.1) (y.1 + 1)) = (exW (fS n) ((exI (fS n) n.L.toNat n.st 0 x.1).getD x.1 0) (exI (fS n) n.L.toNat n.st 0 x.1) y.1) ++ [((posN (exR (fS n) ((exI (fS n) n.L.toNat n.st 0 x.1).getD x.1 0) (exI (fS n) n.L.toNat n.st 0 x.1) y.1) (fS n ((exI (fS n) n.L.toNat n.st 0 x.1).getD x.1 0) y.1) : Nat) : Int)] from rfl, hpos, List.map_append]
  exact hw.pick [0, 1, 2, 3, 4, 5, 6, 7, 8] (by decide) rfl rfl))
      ·have hx : (fS n ((exI (fS n) n.L.toNat n.st 0 x.1).getD x.1 0) y.1) ∈ (exR (fS n) ((exI (fS n) n.L.toNat n.st 0 x.1).getD x.1 0) (exI (fS n) n.L.toNat n.st 0 x.1) y.1) := by
        rw [mget_numM] at hc3; by_cases h : (fS n ((exI (fS n) n.L.toNat n.st 0 x.1).getD x.1 0) y.1) ∈ (exR (fS n) ((exI (fS n) n.L.toNat n.st 0 x.1).getD x.1 0) (exI (fS n) n.L.toNat n.st 0 x.1) y.1)
        ·exact h
        ·rw [if_neg h] at hc3; cases hc3
       have hex : (exR (fS n) ((exI (fS n) n.L.toNat n.st 0 x.1).getD x.1 0) (exI (fS n) n.L.toNat n.st 0 x.1) (y.1 + 1)) = (exR (fS n) ((exI (fS n) n.L.toNat n.st 0 x.1).getD x.1 0) (exI (fS n) n.L.toNat n.st 0 x.1) y.1) := if_pos hx
       have hpos : ((posN (exR (fS n) ((exI (fS n) n.L.toNat n.st 0 x.1).getD x.1 0) (exI (fS n) n.L.toNat n.st 0 x.1) y.1) (fS n ((exI (fS n) n.L.toNat n.st 0 x.1).getD x.1 0) y.1) : Nat) : Int) = (mget (numM (exR (fS n) ((exI (fS n) n.L.toNat n.st 0 x.1).getD x.1 0) (exI (fS n) n.L.toNat n.st 0 x.1) y.1)) (fS n ((exI (fS n) n.L.toNat n.st 0 x.1).getD x.1 0) y.1)).getD 0 := (by rw [mget_numM, if_pos hx]; rfl)
       refine .skip ?_
       refine AK.then_ (hK24 _ ?_)
       refine AK.region ?_
       refine .mv rfl (.mv rfl ?_)
       refine AK.append1 8 rfl sl41 el3 rfl (by decide) rfl (by intro k hk; cases hk; rfl) rfl (by intro u hu; simp [Value.cells] at hu; subst hu; rfl) (by omega) (by omega) (by decide) rfl rfl (fun vr2 _ hr2 => ?_)
       refine .as rfl (.nil (.block_normal ?_))
       refine AK.then_ (hK21 _ ?_)
       refine AK.region ?_
       refine .mv rfl ?_
       refine .v (.add rfl rfl (by omega)) ?_
       refine .as rfl (.nil ?_)
       first | refine AK.then_ (hK18 _ _ ((y.1 + 1, va, vr2)) ⟨by dsimp only; omega, ha2, hr2⟩ (by dsimp only; omega) (slr) (fun w hw => by
  dsimp only
  rw [hex, show (exW (fS n) ((exI (fS n) n.L.toNat n.st 0 x.1).getD x.1 0) (exI (fS n) n.L.toNat n.st 0 x.1) (y.1 + 1)) = (exW (fS n) ((exI (fS n) n.L.toNat n.st 0 x.1).getD x.1 0) (exI (fS n) n.L.toNat n.st 0 x.1) y.1) ++ [((posN (exR (fS n) ((exI (fS n) n.L.toNat n.st 0 x.1).getD x.1 0) (exI (fS n) n.L.toNat n.st 0 x.1) y.1) (fS n ((exI (fS n) n.L.toNat n.st 0 x.1).getD x.1 0) y.1) : Nat) : Int)] from rfl, hpos, ← mset_numM hx, List.map_append, List.map_append, List.length_append]
  exact hw.pick [0, 1, 2, 3, 4, 5, 6, 7, 8] (by decide) rfl rfl)) | refine AK.then_ (hK18 _ _ ((y.1 + 1, y.2.1, vr2)) ⟨by dsimp only; omega, hg1.2.1, hr2⟩ (by dsimp only; omega) (slr) (fun w hw => by
  dsimp only
  rw [hex, show (exW (fS n) ((exI (fS n) n.L.toNat n.st 0 x.1).getD x.1 0) (exI (fS n) n.L.toNat n.st 0 x.1) (y.1 + 1)) = (exW (fS n) ((exI (fS n) n.L.toNat n.st 0 x.1).getD x.1 0) (exI (fS n) n.L.toNat n.st 0 x.1) y.1) ++ [((posN (exR (fS n) ((exI (fS n) n.L.toNat n.st 0 x.1).getD x.1 0) (exI (fS n) n.L.toNat n.st 0 x.1) y.1) (fS n ((exI (fS n) n.L.toNat n.st 0 x.1).getD x.1 0) y.1) : Nat) : Int)] from rfl, hpos, List.map_append]
  exact hw.pick [0, 1, 2, 3, 4, 5, 6, 7, 8] (by decide) rfl rfl))
     ·refine .exit (.then_exit (.then_exit (.block_exit ?_)))
      refine AK.then_ (hK16 _ ?_)
      try (conv => enter [2, 2]; dsimp only [List.set_cons_zero, List.set_cons_succ, List.cons_append, List.nil_append])
      refine AK.held 18 mixed ?_
      refine HeldK.first 0 (fuel := 20) (listed' := (lb 21 1)) _ rfl krf krf rfl (Yl.fieldAddr fd32_3 rfl) trivial rfl ?_
      refine HeldK.first 1 (fuel := 19) (listed' := (lb 21 3)) _ rfl krf krf rfl (Yl.loadBox on30 rfl bsp rfl) trivial rfl ?_
      refine HeldK.first 2 (fuel := 18) (listed' := (lb 21 7)) _ rfl krf krf rfl (Yl.move rfl) trivial rfl ?_
      refine HeldK.first 5 (fuel := 17) (listed' := (lb 21 39)) _ rfl krf krf rfl (Yl.fieldAddr fd32_2 rfl) trivial rfl ?_
      refine HeldK.first 6 (fuel := 16) (listed' := (lb 21 103)) _ rfl krf krf rfl (Yl.loadBox on29 rfl bsp rfl) trivial rfl ?_
      refine HeldK.first 7 (fuel := 15) (listed' := (lb 21 231)) _ rfl krf krf rfl (Yl.move rfl) trivial rfl ?_
      refine HeldK.first 8 (fuel := 14) (listed' := (lb 21 487)) _ rfl krf krf rfl (Yl.move rfl) trivial rfl ?_
      first | refine HeldK.first 9 (fuel := 13) (listed' := (lb 21 999)) _ rfl krf krf rfl (.iN sl33 rfl rfl (h0 := (exR_lt hlt _))) trivial rfl ?_ | refine HeldK.first 9 (fuel := 13) (listed' := (lb 21 999)) _ rfl krf krf rfl (.iK sl33 rfl rfl (h0 := (exR_lt hlt _))) trivial rfl ?_
      refine HeldK.first 10 (fuel := 12) (listed' := (lb 21 2023)) _ rfl krf krf rfl (Yl.valE (v' := uv ((exI (fS n) n.L.toNat n.st 0 x.1).getD x.1 0)) (Yl.loadU on22 rfl rdp (exR_lt hlt _)) (congrArg uv (exR_get hlt _))) trivial rfl ?_
      refine HeldK.first 11 (fuel := 11) (listed' := (lb 21 4071)) _ rfl krf krf rfl (Yl.fieldAddr fd25_3 rfl) trivial rfl ?_
      refine HeldK.first 12 (fuel := 10) (listed' := (lb 21 8167)) _ rfl krf krf rfl (Yl.loadBox on22 rfl bsp rfl) trivial rfl ?_
      refine HeldK.first 13 (fuel := 9) (listed' := (lb 21 16359)) _ rfl krf krf rfl (Yl.andU rfl rfl) trivial rfl ?_
      refine HeldK.first 14 (fuel := 8) (listed' := (lb 21 32743)) _ rfl krf krf rfl (Yl.neqU (b := 0) rfl rfl) trivial rfl ?_
      refine HeldK.two 3 15 (fuel := 7) (listed1 := (lb 21 32751)) (listed2 := (lb 21 65511)) krf rfl rfl krf krf ?_ ?_
      ·refine AK.lit (xs := [.tmp 77]) sl30 el41 rfl rfl rfl (by intro c hc; simp at hc; subst hc; rw [hg1.2.2.cells]; rfl) (by decide) (by decide) trivial rfl (fun t3 => ?_)
       refine .nil ?_
       try (conv => enter [2, 2]; dsimp only [List.set_cons_zero, List.set_cons_succ, List.cons_append, List.nil_append])
       refine HeldK.back Go.Sx.hle ?_
       refine HeldK.two 4 15 (fuel := 6) (listed1 := (lb 21 32767)) (listed2 := (lb 21 65519)) krf rfl rfl krf krf ?_ ?_
       ·refine AK.appendH 6 rfl sl30 el41 rfl (by decide) rfl rfl rfl rdp (by rw [show [y.2.2].flatMap (·.cells.toList) = [y.2.2] by simp [hg1.2.2.cells]]; exact one'_cons hg1.2.2.one one'_nil) (by omega) (by omega) trivial rfl (fun vn2 hn2 => ?_)
        refine .nil ?_
        try (conv => enter [2, 2]; dsimp only [List.set_cons_zero, List.set_cons_succ, List.cons_append, List.nil_append])
        refine HeldK.back Go.Sx.hle ?_
        refine HeldK.first 17 (fuel := 5) (listed' := (lb 21 163839)) _ rfl krf krf rfl (Yl.fieldAddr fd32_3 rfl) trivial rfl ?_
        refine HeldK.one 15 (fuel := 4) (listed' := (lb 21 196607)) krf rfl krf ?_
        refine AK.lit (xs := [.tmp 89]) sl29 el4 rfl rfl rfl (by intro c hc; simp at hc; subst hc; rfl) (by decide) (by decide) trivial rfl (fun t21 => ?_)
        refine .nil ?_
        try (conv => enter [2, 2]; dsimp only [List.set_cons_zero, List.set_cons_succ, List.cons_append, List.nil_append])
        refine HeldK.back Go.Sx.hle ?_
        refine HeldK.one 16 (fuel := 3) (listed' := (lb 21 262143)) krf rfl krf ?_
        refine AK.appendH 5 rfl sl29 el4 rfl (by decide) rfl rfl rfl rdp oneP (by omega) (by omega) trivial rfl (fun vf2 hf2 => ?_)
        refine .nil ?_
        try (conv => enter [2, 2]; dsimp only [List.set_cons_zero, List.set_cons_succ, List.cons_append, List.nil_append])
        refine HeldK.back Go.Sx.hle ?_
        refine HeldK.one 18 (fuel := 2) (listed' := (lb 21 524287)) krf rfl krf ?_
        refine AK.storeBox 4 (us := [vn2]) (cs' := [.int .i64 n.L, .int .i64 0, x.2.2.1, vn2]) rfl sz30 rfl rfl (by rw [IsSl.cells (by assumption)]) rfl oneP (Nat.le_of_ble_eq_true rfl) rfl trivial ?_
        refine .nil ?_
        try (conv => enter [2, 2]; dsimp only [List.set_cons_zero, List.set_cons_succ, List.cons_append, List.nil_append])
        refine HeldK.backN 19 krf rfl krf ?_
        refine .v (.fieldAddr fd32_2 rfl) ?_
        refine AK.storeBox 4 (us := [vf2]) (cs' := [.int .i64 n.L, .int .i64 0, vf2, vn2]) rfl sz29 rfl rfl (by rw [IsSl.cells (by assumption)]) rfl oneP (Nat.le_of_ble_eq_true rfl) rfl trivial ?_
        refine .nil ?_
        refine AK.fromQn ?_
        refine .block_normal ?_
        refine AK.then_ (hK14 _ ?_)
        refine AK.region ?_
        refine .mv rfl ?_
        refine .v (.add rfl rfl (by omega)) ?_
        refine .as rfl (.nil ?_)
        refine AK.then_ (hK11 _ _ ((x.1 + 1, y.2.1, vf2, vn2, x.2.2.2.2 ++ [y.2.2])) ⟨by dsimp only; rw [exI_next hlt]; have := exR_pre (fS n) ((exI (fS n) n.L.toNat n.st 0 x.1).getD x.1 0) (exI (fS n) n.L.toNat n.st 0 x.1) n.L.toNat; obtain ⟨ys, e⟩ := this; rw [e, List.length_append]; omega, by simp [hg0.2.1], hg1.2.1, hf2, hn2⟩ (by dsimp only; omega) (slr) (fun w hw => by
  dsimp only
  have e2 : matG (Value.int .i64) 3 (x.2.2.2.2 ++ [y.2.2]) (exN (fS n) n.L.toNat n.st 0 (x.1 + 1)) = matG (Value.int .i64) 3 x.2.2.2.2 (exN (fS n) n.L.toNat n.st 0 x.1) ++ [row y.2.2 3 1 (exW (fS n) ((exI (fS n) n.L.toNat n.st 0 x.1).getD x.1 0) (exI (fS n) n.L.toNat n.st 0 x.1) n.L.toNat).length ((exW (fS n) ((exI (fS n) n.L.toNat n.st 0 x.1).getD x.1 0) (exI (fS n) n.L.toNat n.st 0 x.1) n.L.toNat).map (Value.int .i64))] := matG_snoc (by rw [exN_len]; exact hg0.2.1) y.2.2 _
  have e3 : [y.2.2].flatMap (·.cells.toList) = [y.2.2] := (by simp [hg1.2.2.cells])
  have e5 : (exG (fS n) n.L.toNat n.st 0 (gS n) (x.1 + 1)).map Value.bool = (exG (fS n) n.L.toNat n.st 0 (gS n) x.1).map Value.bool ++ [Value.bool (gS n ((exI (fS n) n.L.toNat n.st 0 x.1).getD x.1 0))].flatMap (·.cells.toList) := (by simp [exG, Value.cells])
  have hyL : y.1 = n.L.toNat := (by omega)
  rw [e3, hyL] at hw
  rw [e2, exI_next hlt, exW_len, e5]
  have h2 := hw.pickLe (L := [_, _, _, _, _, row vf2 4 1 (x.1 + 1) ((exG (fS n) n.L.toNat n.st 0 (gS n) x.1).map Value.bool ++ [Value.bool (gS n ((exI (fS n) n.L.toNat n.st 0 x.1).getD x.1 0))].flatMap (·.cells.toList)), row vn2 41 1 (x.1 + 1) (x.2.2.2.2 ++ [y.2.2]), _, _]) [0, 1, 2, 3, 4, 5, 6, 7, 8] (by decide) pkl
  exact HW.absorb (own := [_, _, _, _, _, _, _, _]) 7 rfl h2))
       ·refine AK.lit (xs := [.tmp 89]) sl29 el4 rfl rfl rfl (by intro c hc; simp at hc; subst hc; rfl) (by decide) (by decide) trivial rfl (fun t21 => ?_)
        refine .nil ?_
        try (conv => enter [2, 2]; dsimp only [List.set_cons_zero, List.set_cons_succ, List.cons_append, List.nil_append])
        refine HeldK.back Go.Sx.hle ?_
        refine HeldK.one 4 (fuel := 5) (listed' := (lb 21 65535)) krf rfl krf ?_
        refine AK.appendH 6 rfl sl30 el41 rfl (by decide) rfl rfl rfl rdp (by rw [show [y.2.2].flatMap (·.cells.toList) = [y.2.2] by simp [hg1.2.2.cells]]; exact one'_cons hg1.2.2.one one'_nil) (by omega) (by omega) trivial rfl (fun vn2 hn2 => ?_)
        refine .nil ?_
        try (conv => enter [2, 2]; dsimp only [List.set_cons_zero, List.set_cons_succ, List.cons_append, List.nil_append])
        refine HeldK.back Go.Sx.hle ?_
        refine HeldK.first 17 (fuel := 4) (listed' := (lb 21 196607)) _ rfl krf krf rfl (Yl.fieldAddr fd32_3 rfl) trivial rfl ?_
        refine HeldK.one 16 (fuel := 3) (listed' := (lb 21 262143)) krf rfl krf ?_
        refine AK.appendH 5 rfl sl29 el4 rfl (by decide) rfl rfl rfl rdp oneP (by omega) (by omega) trivial rfl (fun vf2 hf2 => ?_)
        refine .nil ?_
        try (conv => enter [2, 2]; dsimp only [List.set_cons_zero, List.set_cons_succ, List.cons_append, List.nil_append])
        refine HeldK.back Go.Sx.hle ?_
        refine HeldK.one 18 (fuel := 2) (listed' := (lb 21 524287)) krf rfl krf ?_
        refine AK.storeBox 4 (us := [vn2]) (cs' := [.int .i64 n.L, .int .i64 0, x.2.2.1, vn2]) rfl sz30 rfl rfl (by rw [IsSl.cells (by assumption)]) rfl oneP (Nat.le_of_ble_eq_true rfl) rfl trivial ?_
        refine .nil ?_
        try (conv => enter [2, 2]; dsimp only [List.set_cons_zero, List.set_cons_succ, List.cons_append, List.nil_append])
        refine HeldK.backN 19 krf rfl krf ?_
        refine .v (.fieldAddr fd32_2 rfl) ?_
        refine AK.storeBox 4 (us := [vf2]) (cs' := [.int .i64 n.L, .int .i64 0, vf2, vn2]) rfl sz29 rfl rfl (by rw [IsSl.cells (by assumption)]) rfl oneP (Nat.le_of_ble_eq_true rfl) rfl trivial ?_
        refine .nil ?_
        refine AK.fromQn ?_
        refine .block_normal ?_
        refine AK.then_ (hK14 _ ?_)
        refine AK.region ?_
        refine .mv rfl ?_
        refine .v (.add rfl rfl (by omega)) ?_
        refine .as rfl (.nil ?_)
        refine AK.then_ (hK11 _ _ ((x.1 + 1, y.2.1, vf2, vn2, x.2.2.2.2 ++ [y.2.2])) ⟨by dsimp only; rw [exI_next hlt]; have := exR_pre (fS n) ((exI (fS n) n.L.toNat n.st 0 x.1).getD x.1 0) (exI (fS n) n.L.toNat n.st 0 x.1) n.L.toNat; obtain ⟨ys, e⟩ := this; rw [e, List.length_append]; omega, by simp [hg0.2.1], hg1.2.1, hf2, hn2⟩ (by dsimp only; omega) (slr) (fun w hw => by
  dsimp only
  have e2 : matG (Value.int .i64) 3 (x.2.2.2.2 ++ [y.2.2]) (exN (fS n) n.L.toNat n.st 0 (x.1 + 1)) = matG (Value.int .i64) 3 x.2.2.2.2 (exN (fS n) n.L.toNat n.st 0 x.1) ++ [row y.2.2 3 1 (exW (fS n) ((exI (fS n) n.L.toNat n.st 0 x.1).getD x.1 0) (exI (fS n) n.L.toNat n.st 0 x.1) n.L.toNat).length ((exW (fS n) ((exI (fS n) n.L.toNat n.st 0 x.1).getD x.1 0) (exI (fS n) n.L.toNat n.st 0 x.1) n.L.toNat).map (Value.int .i64))] := matG_snoc (by rw [exN_len]; exact hg0.2.1) y.2.2 _
  have e3 : [y.2.2].flatMap (·.cells.toList) = [y.2.2] := (by simp [hg1.2.2.cells])
  have e5 : (exG (fS n) n.L.toNat n.st 0 (gS n) (x.1 + 1)).map Value.bool = (exG (fS n) n.L.toNat n.st 0 (gS n) x.1).map Value.bool ++ [Value.bool (gS n ((exI (fS n) n.L.toNat n.st 0 x.1).getD x.1 0))].flatMap (·.cells.toList) := (by simp [exG, Value.cells])
  have hyL : y.1 = n.L.toNat := (by omega)
  rw [e3, hyL] at hw
  rw [e2, exI_next hlt, exW_len, e5]
  have h2 := hw.pickLe (L := [_, _, _, _, _, row vf2 4 1 (x.1 + 1) ((exG (fS n) n.L.toNat n.st 0 (gS n) x.1).map Value.bool ++ [Value.bool (gS n ((exI (fS n) n.L.toNat n.st 0 x.1).getD x.1 0))].flatMap (·.cells.toList)), row vn2 41 1 (x.1 + 1) (x.2.2.2.2 ++ [y.2.2]), _, _]) [0, 1, 2, 3, 4, 5, 6, 7, 8] (by decide) pkl
  exact HW.absorb (own := [_, _, _, _, _, _, _, _]) 7 rfl h2))
      ·refine AK.lit (xs := [.tmp 89]) sl29 el4 rfl rfl rfl (by intro c hc; simp at hc; subst hc; rfl) (by decide) (by decide) trivial rfl (fun t21 => ?_)
       refine .nil ?_
       try (conv => enter [2, 2]; dsimp only [List.set_cons_zero, List.set_cons_succ, List.cons_append, List.nil_append])
       refine HeldK.back Go.Sx.hle ?_
       refine HeldK.one 3 (fuel := 6) (listed' := (lb 21 65519)) krf rfl krf ?_
       refine AK.lit (xs := [.tmp 77]) sl30 el41 rfl rfl rfl (by intro c hc; simp at hc; subst hc; rw [hg1.2.2.cells]; rfl) (by decide) (by decide) trivial rfl (fun t3 => ?_)
       refine .nil ?_
       try (conv => enter [2, 2]; dsimp only [List.set_cons_zero, List.set_cons_succ, List.cons_append, List.nil_append])
       refine HeldK.back Go.Sx.hle ?_
       refine HeldK.one 4 (fuel := 5) (listed' := (lb 21 65535)) krf rfl krf ?_
       refine AK.appendH 6 rfl sl30 el41 rfl (by decide) rfl rfl rfl rdp (by rw [show [y.2.2].flatMap (·.cells.toList) = [y.2.2] by simp [hg1.2.2.cells]]; exact one'_cons hg1.2.2.one one'_nil) (by omega) (by omega) trivial rfl (fun vn2 hn2 => ?_)
       refine .nil ?_
       try (conv => enter [2, 2]; dsimp only [List.set_cons_zero, List.set_cons_succ, List.cons_append, List.nil_append])
       refine HeldK.back Go.Sx.hle ?_
       refine HeldK.first 17 (fuel := 4) (listed' := (lb 21 196607)) _ rfl krf krf rfl (Yl.fieldAddr fd32_3 rfl) trivial rfl ?_
       refine HeldK.one 16 (fuel := 3) (listed' := (lb 21 262143)) krf rfl krf ?_
       refine AK.appendH 5 rfl sl29 el4 rfl (by decide) rfl rfl rfl rdp oneP (by omega) (by omega) trivial rfl (fun vf2 hf2 => ?_)
       refine .nil ?_
       try (conv => enter [2, 2]; dsimp only [List.set_cons_zero, List.set_cons_succ, List.cons_append, List.nil_append])
       refine HeldK.back Go.Sx.hle ?_
       refine HeldK.one 18 (fuel := 2) (listed' := (lb 21 524287)) krf rfl krf ?_
       refine AK.storeBox 4 (us := [vn2]) (cs' := [.int .i64 n.L, .int .i64 0, x.2.2.1, vn2]) rfl sz30 rfl rfl (by rw [IsSl.cells (by assumption)]) rfl oneP (Nat.le_of_ble_eq_true rfl) rfl trivial ?_
       refine .nil ?_
       try (conv => enter [2, 2]; dsimp only [List.set_cons_zero, List.set_cons_succ, List.cons_append, List.nil_append])
       refine HeldK.backN 19 krf rfl krf ?_
       refine .v (.fieldAddr fd32_2 rfl) ?_
       refine AK.storeBox 4 (us := [vf2]) (cs' := [.int .i64 n.L, .int .i64 0, vf2, vn2]) rfl sz29 rfl rfl (by rw [IsSl.cells (by assumption)]) rfl oneP (Nat.le_of_ble_eq_true rfl) rfl trivial ?_
       refine .nil ?_
       refine AK.fromQn ?_
       refine .block_normal ?_
       refine AK.then_ (hK14 _ ?_)
       refine AK.region ?_
       refine .mv rfl ?_
       refine .v (.add rfl rfl (by omega)) ?_
       refine .as rfl (.nil ?_)
       refine AK.then_ (hK11 _ _ ((x.1 + 1, y.2.1, vf2, vn2, x.2.2.2.2 ++ [y.2.2])) ⟨by dsimp only; rw [exI_next hlt]; have := exR_pre (fS n) ((exI (fS n) n.L.toNat n.st 0 x.1).getD x.1 0) (exI (fS n) n.L.toNat n.st 0 x.1) n.L.toNat; obtain ⟨ys, e⟩ := this; rw [e, List.length_append]; omega, by simp [hg0.2.1], hg1.2.1, hf2, hn2⟩ (by dsimp only; omega) (slr) (fun w hw => by
  dsimp only
  have e2 : matG (Value.int .i64) 3 (x.2.2.2.2 ++ [y.2.2]) (exN (fS n) n.L.toNat n.st 0 (x.1 + 1)) = matG (Value.int .i64) 3 x.2.2.2.2 (exN (fS n) n.L.toNat n.st 0 x.1) ++ [row y.2.2 3 1 (exW (fS n) ((exI (fS n) n.L.toNat n.st 0 x.1).getD x.1 0) (exI (fS n) n.L.toNat n.st 0 x.1) n.L.toNat).length ((exW (fS n) ((exI (fS n) n.L.toNat n.st 0 x.1).getD x.1 0) (exI (fS n) n.L.toNat n.st 0 x.1) n.L.toNat).map (Value.int .i64))] := matG_snoc (by rw [exN_len]; exact hg0.2.1) y.2.2 _
  have e3 : [y.2.2].flatMap (·.cells.toList) = [y.2.2] := (by simp [hg1.2.2.cells])
  have e5 : (exG (fS n) n.L.toNat n.st 0 (gS n) (x.1 + 1)).map Value.bool = (exG (fS n) n.L.toNat n.st 0 (gS n) x.1).map Value.bool ++ [Value.bool (gS n ((exI (fS n) n.L.toNat n.st 0 x.1).getD x.1 0))].flatMap (·.cells.toList) := (by simp [exG, Value.cells])
  have hyL : y.1 = n.L.toNat := (by omega)
  rw [e3, hyL] at hw
  rw [e2, exI_next hlt, exW_len, e5]
  have h2 := hw.pickLe (L := [_, _, _, _, _, row vf2 4 1 (x.1 + 1) ((exG (fS n) n.L.toNat n.st 0 (gS n) x.1).map Value.bool ++ [Value.bool (gS n ((exI (fS n) n.L.toNat n.st 0 x.1).getD x.1 0))].flatMap (·.cells.toList)), row vn2 41 1 (x.1 + 1) (x.2.2.2.2 ++ [y.2.2]), _, _]) [0, 1, 2, 3, 4, 5, 6, 7, 8] (by decide) pkl
  exact HW.absorb (own := [_, _, _, _, _, _, _, _]) 7 rfl h2))
   ·refine .exit (.then_exit (.then_exit (.block_exit ?_)))
    refine AK.then_ (hK9 _ ?_)
    refine .sr fun _ hK30 => ?_
    refine .v (.loadBoxG ag32 rfl bsp rfl rfl) ?_
    refine .mv rfl ?_
    refine AK.storeBox 1 (us := [.int .i64 n.L, .int .i64 0, x.2.2.1, x.2.2.2.1]) (cs' := [.int .i64 n.L, .int .i64 0, x.2.2.1, x.2.2.2.1]) rfl sz32 rfl rfl rfl rfl oneP (Nat.le_of_ble_eq_true rfl) rfl trivial ?_
    refine .as rfl (.as rfl (.nt hK30 (.ret ?_)))
    refine AK.own' ([box bx1 25 5 [.int .i64 n.L, .int .i64 n.S, uv n.st, uv n.fi, vE], box bx2 32 4 [.int .i64 n.L, .int .i64 0, x.2.2.1, x.2.2.2.1], row x.2.1 22 1 (exI (fS n) n.L.toNat n.st 0 x.1).length ((exI (fS n) n.L.toNat n.st 0 x.1).map uv), mapA mb (mkv uv (Value.int .i64) (numM (exI (fS n) n.L.toNat n.st 0 x.1))), box bx8 32 4 [.int .i64 n.L, .int .i64 0, x.2.2.1, x.2.2.2.1], row x.2.2.1 4 1 x.1 ((exG (fS n) n.L.toNat n.st 0 (gS n) x.1).map Value.bool), row x.2.2.2.1 41 1 x.1 x.2.2.2.2, bigA (matG (Value.int .i64) 3 x.2.2.2.2 (exN (fS n) n.L.toNat n.st 0 x.1))]) (fun w hw => hw) ?_
    refine AK.retG [.cell 2 32, .tmp 3, .tmp 4] rfl (.cons (.cell ag32 rfl bsp rfl rfl) (.cons (.tmp rfl) (.cons (.tmp rfl) (.nil)))) (fun w hw => ⟨_, _, ?_, rfl, Ret.of (hw.pick [5, 6, 7, 2] (by decide) rfl rfl)⟩)
    obtain ⟨ht1, ht2⟩ := gen_is (g := gS n) (z := (0 : W64)) n.L hs hf (n := x.1) (by omega)
    have e1 : SubV n U = subU n U := if_pos hE
    have e2 : SetV n U = setU n U := if_pos hE
    rw [e1, e2, hE, show subU n U = _ from ht2.symm, show setU n U = _ from ht1.symm]
    refine ⟨x.2.2.1, x.2.2.2.1, x.2.1, x.2.2.2.2, rfl, ?_, hsF, hsN, hg0.2.2.1, ?_⟩
    ·rw [hg0.2.1, exN_len]
    ·unfold dfaO; rw [exG_len, exN_len]; rfl

end Go.Proofs.YtckicbgffhbacaaDoor
