import Derived.Test.YtckicbgffhbacaaDoorD5
import Derived.Test.YtckicbgffhbacaaDoorDP
set_option linter.unusedVariables false
set_option linter.unusedSimpArgs false
namespace Go.Proofs.YtckicbgffhbacaaDoor
open Go.Sx Go.RowKit
set_option maxHeartbeats 400000 in
set_option maxRecDepth 100000 in
theorem s_ofI (w : World) (F : Nat → Prop) (b mb : Nat) (vL : Value) (xs : List Int) (x : Int) (hl : xs.length ≤ 100000) (sL : IsSl vL) (hA : (bigA [box b 85 2 [vL, .map (some mb)], row vL 3 1 xs.length (xs.map (Value.int .i64)), mapA mb (mkv (Value.int .i64) (Value.int .i64) (numM xs))]).holds w F) : CallM Tryd.prog 45 [.pointer (some ⟨b, 0, none⟩), Value.int .i64 x] w F (fun r A o => ∃ va, IsSl va ∧ r = .int .i64 ((posN xs x : Nat) : Int) ∧ A = bigA [box b 85 2 [va, .map (some mb)], row va 3 1 (insN xs x).length ((insN xs x).map (Value.int .i64)), mapA mb (mkv (Value.int .i64) (Value.int .i64) (numM (insN xs x)))] ∧ o = []) := by
 refine specM_of' Tryd.func45 rfl (Nat.le_of_ble_eq_true rfl) hA ?_
 refine .sr fun _ hK1 => ?_
 refine .as rfl (.nt hK1 ?_)
 refine .sr fun _ hK2 => ?_
 refine .mv rfl ?_
 refine .v (.nilCheck rfl) ?_
 refine .v (.fieldAddr fd85_1 rfl) ?_
 refine .v (.loadBox on83 rfl bsp rfl) ?_
 refine .mv rfl ?_
 refine .v (.lookup2I mp83 (keyInt un3) el3 rfl rfl msp) ?_
 refine .mv rfl ?_
 refine .v (.extract rfl rfl) ?_
 refine .v (.extract rfl rfl) ?_
 refine .as rfl (.as rfl (.nt hK2 ?_))
 refine .seq fun _ hK3 => ?_
 refine .sr fun _ hK4 => ?_
 refine .mv rfl ?_
 refine .v (.not rfl) ?_
 refine .nt hK4 ?_
 refine AK.condB rfl (fun hc0 => ?_) (fun hc0 => ?_)
 ·have hx : x ∉ xs := by
   rw [mget_numM] at hc0; intro h; rw [if_pos h] at hc0; cases hc0
  refine .seq fun _ hK5 => ?_
  refine .sr fun _ hK6 => ?_
  refine .mv rfl ?_
  refine .v (.nilCheck rfl) ?_
  refine .v (.fieldAddr fd85_1 rfl) ?_
  refine .v (.loadBox on83 rfl bsp rfl) ?_
  refine .v (.eqlMap mp83 rfl) ?_
  refine .nt hK6 ?_
  refine AK.cond_f rfl (rfl) ?_
  refine .skip ?_
  refine AK.then_ (hK5 _ ?_)
  refine .sr fun _ hK7 => ?_
  refine .mv rfl ?_
  refine .v (.nilCheck rfl) ?_
  refine .v (.fieldAddr fd85_0 rfl) ?_
  refine .v (.loadBox on41 rfl bsp rfl) ?_
  refine .v (.lenR sl41 rfl rdp) ?_
  refine .as rfl (.nt hK7 ?_)
  refine .sr fun _ hK8 => ?_
  refine .mv rfl ?_
  refine .v (.nilCheck rfl) ?_
  refine .v (.fieldAddr fd85_1 rfl) ?_
  refine .v (.loadBox on83 rfl bsp rfl) ?_
  refine .mv rfl (.mv rfl ?_)
  refine AK.mapSet 2 rfl mp83 (keyInt un3) rfl rfl rfl trivial ?_
  refine .nt hK8 ?_
  refine AK.region ?_
  refine .mv rfl (.mv rfl ?_)
  refine .v (.nilCheck rfl) ?_
  refine .v (.fieldAddr fd85_0 rfl) ?_
  refine .v (.loadBox on41 rfl bsp rfl) ?_
  refine .mv rfl ?_
  refine AK.append1 1 rfl sl41 el3 rfl (by decide) rfl (by intro k hk; cases hk; rfl) rfl (by intro u hu; simp [Value.cells] at hu; subst hu; rfl) (by omega) (by omega) (by decide) rfl rfl (fun va _ hsa => ?_)
  refine .v (.nilCheck rfl) ?_
  refine .v (.fieldAddr fd85_0 rfl) ?_
  refine AK.storeBox 0 (us := [va]) (cs' := [va, .map (some mb)]) rfl sz41 rfl rfl (by rw [IsSl.cells (by assumption)]) rfl oneP (Nat.le_of_ble_eq_true rfl) rfl trivial ?_
  refine .nt hK3 ?_
  refine .sr fun _ hK9 => ?_
  refine .mv rfl (.as rfl (.nt hK9 (.ret ?_)))
  refine AK.grown [box b 85 2 [va, .map (some mb)], row va 3 1 (xs.length + 1) ((xs.map (Value.int .i64)) ++ (Value.int .i64 x).cells.toList), mapA mb (mkv (Value.int .i64) (Value.int .i64) (mset (numM xs) x (xs.length : Int)))] [0, 1, 2] (by decide) pkl ?_
  refine AK.ret1 rfl rfl (fun w hw => ⟨_, _, _, ?_, rfl, Ret.ofBig0 hw⟩)
  refine ⟨va, hsa, ?_, ?_, rfl⟩
  ·rw [posN_not hx]
   try rfl
  ·rw [show insN xs x = xs ++ [x] from if_neg hx, ← mset_numM hx]; simp [Value.cells]
 ·have hx : x ∈ xs := by
   rw [mget_numM] at hc0; by_cases h : x ∈ xs
   ·exact h
   ·rw [if_neg h] at hc0; cases hc0
  refine .skip ?_
  refine AK.then_ (hK3 _ ?_)
  refine .sr fun _ hK10 => ?_
  refine .mv rfl (.as rfl (.nt hK10 (.ret ?_)))
  refine AK.grown [box b 85 2 [vL, .map (some mb)], row vL 3 1 xs.length (xs.map (Value.int .i64)), mapA mb (mkv (Value.int .i64) (Value.int .i64) (numM xs))] [0, 1, 2] (by decide) pkl ?_
  refine AK.ret1 rfl rfl (fun w hw => ⟨_, _, _, ?_, rfl, Ret.ofBig0 hw⟩)
  refine ⟨vL, sL, ?_, ?_, rfl⟩
  ·rw [mget_numM, if_pos hx]
   try rfl
  ·rw [show insN xs x = xs from if_pos hx]

set_option maxHeartbeats 400000 in
set_option maxRecDepth 100000 in
theorem s_of0I (w : World) (F : Nat → Prop) (b : Nat) (x : Int) (hA : (bigA [box b 85 2 [.slice none 0 0, .map none]]).holds w F) : CallM Tryd.prog 45 [.pointer (some ⟨b, 0, none⟩), Value.int .i64 x] w F (fun r A o => ∃ va mb, IsSl va ∧ r = .int .i64 0 ∧ A = bigA [box b 85 2 [va, .map (some mb)], row va 3 1 [x].length ([x].map (Value.int .i64)), mapA mb (mkv (Value.int .i64) (Value.int .i64) (numM [x]))] ∧ o = []) := by
 refine specM_of' Tryd.func45 rfl (Nat.le_of_ble_eq_true rfl) hA ?_
 refine AK.ghost 3 1 ?_
 refine .sr fun _ hK1 => ?_
 refine .as rfl (.nt hK1 ?_)
 refine .sr fun _ hK2 => ?_
 refine .mv rfl ?_
 refine .v (.nilCheck rfl) ?_
 refine .v (.fieldAddr fd85_1 rfl) ?_
 refine .v (.loadBox on83 rfl bsp rfl) ?_
 refine .mv rfl ?_
 refine .v (.lookup2I (m := ([] : List (Int × Int))) mp83 (keyInt un3) el3 rfl rfl MapS.nil) ?_
 refine .mv rfl ?_
 refine .v (.extract rfl rfl) ?_
 refine .v (.extract rfl rfl) ?_
 refine .as rfl (.as rfl (.nt hK2 ?_))
 refine .seq fun _ hK3 => ?_
 refine .sr fun _ hK4 => ?_
 refine .mv rfl ?_
 refine .v (.not rfl) ?_
 refine .nt hK4 ?_
 refine AK.cond_t rfl (rfl) ?_
 refine .seq fun _ hK5 => ?_
 refine .sr fun _ hK6 => ?_
 refine .mv rfl ?_
 refine .v (.nilCheck rfl) ?_
 refine .v (.fieldAddr fd85_1 rfl) ?_
 refine .v (.loadBox on83 rfl bsp rfl) ?_
 refine .v (.eqlMap mp83 rfl) ?_
 refine .nt hK6 ?_
 refine AK.cond_t rfl (rfl) ?_
 refine AK.region ?_
 refine .mv rfl ?_
 refine AK.makeMap trivial rfl (fun mb => ?_)
 refine .v (.nilCheck rfl) ?_
 refine .v (.fieldAddr fd85_1 rfl) ?_
 refine AK.storeBox 0 (us := [.map (some mb)]) (cs' := [.slice none 0 0, .map (some mb)]) rfl sz83 rfl rfl rfl rfl oneP (Nat.le_of_ble_eq_true rfl) rfl trivial ?_
 refine .nt hK5 ?_
 refine .sr fun _ hK7 => ?_
 refine .mv rfl ?_
 refine .v (.nilCheck rfl) ?_
 refine .v (.fieldAddr fd85_0 rfl) ?_
 refine .v (.loadBox on41 rfl bsp rfl) ?_
 refine .v (.lenR sl41 rfl rdp) ?_
 refine .as rfl (.nt hK7 ?_)
 refine .sr fun _ hK8 => ?_
 refine .mv rfl ?_
 refine .v (.nilCheck rfl) ?_
 refine .v (.fieldAddr fd85_1 rfl) ?_
 refine .v (.loadBox on83 rfl bsp rfl) ?_
 refine .mv rfl (.mv rfl ?_)
 refine AK.mapSet 2 (m := ([] : List (Int × Int))) rfl mp83 (keyInt un3) rfl rfl rfl trivial ?_
 refine .nt hK8 ?_
 refine AK.region ?_
 refine .mv rfl (.mv rfl ?_)
 refine .v (.nilCheck rfl) ?_
 refine .v (.fieldAddr fd85_0 rfl) ?_
 refine .v (.loadBox on41 rfl bsp rfl) ?_
 refine .mv rfl ?_
 refine AK.append1 1 rfl sl41 el3 rfl (by decide) rfl (by intro k hk; cases hk; rfl) rfl (by intro u hu; simp [Value.cells] at hu; subst hu; rfl) (by omega) (by omega) (by decide) rfl rfl (fun va _ hsa => ?_)
 refine .v (.nilCheck rfl) ?_
 refine .v (.fieldAddr fd85_0 rfl) ?_
 refine AK.storeBox 0 (us := [va]) (cs' := [va, .map (some mb)]) rfl sz41 rfl rfl (by rw [IsSl.cells (by assumption)]) rfl oneP (Nat.le_of_ble_eq_true rfl) rfl trivial ?_
 refine .nt hK3 ?_
 refine .sr fun _ hK9 => ?_
 refine .mv rfl (.as rfl (.nt hK9 (.ret ?_)))
 refine AK.grown [box b 85 2 [va, .map (some mb)], row va 3 1 (0 + 1) ([] ++ (Value.int .i64 x).cells.toList), mapA mb (mkv (Value.int .i64) (Value.int .i64) (mset ([] : List (Int × Int)) x ((0 : Nat) : Int)))] [0, 1, 2] (by decide) pkl ?_
 refine AK.ret1 rfl rfl (fun w hw => ⟨_, _, _, ?_, rfl, Ret.ofBig0 hw⟩)
 exact ⟨va, mb, hsa, rfl, rfl, rfl⟩

set_option maxHeartbeats 1000000 in
set_option maxRecDepth 100000 in
theorem s_exploreI (w : World) (L : Nat) (s : Int) (f : Int → Nat → Int) (g : Int → Bool) (U : List Int) (fN fG : Nat) (cN cG : List Value) (hL : 1 ≤ L ∧ L ≤ 6) (hs : s ∈ U) (hU : U.length ≤ 512) (hf : ∀ q ∈ U, ∀ x, x < L → f q x ∈ U) (hcN : CallOk Tryd.prog fN) (hcG : CallOk Tryd.prog fG) (hN : ∀ w', FrameX (fun _ => False) w w' → ∀ q ∈ U, ∀ x, x < L → CallS Tryd.prog fN ([(Value.int .i64 q), .int .i64 (x : Int)] ++ cN) w' (fun r o => r = (Value.int .i64 (f q x)) ∧ o = [])) (hG : ∀ w', FrameX (fun _ => False) w w' → ∀ q ∈ U, CallS Tryd.prog fG ([(Value.int .i64 q)] ++ cG) w' (fun r o => r = .bool (g q) ∧ o = [])) : CallS Tryd.prog 31 [.int .i64 (L : Int), Value.int .i64 s, .func (.func fN) #[] cN.toArray, .func (.func fG) #[] cG.toArray] w (fun r o => ∃ (n : Nat) (vL vF vN : Value) (rs : List Value), n = (exI f L s 0 n).length ∧ rs.length = n ∧ IsSl vL ∧ IsSl vF ∧ IsSl vN ∧ r = .tuple #[.agg #[.int .i64 (L : Int), .int .i64 0, vF, vN], vL, .int .i64 0] ∧ o = dfaO 4 3 41 vF vN rs ⟨(L : Int), 0, (exG f L s 0 g n), (exN f L s 0 n)⟩ ++ [row vL 3 1 (exI f L s 0 n).length ((exI f L s 0 n).map (Value.int .i64))]) := by
 have hok := exI_ok (z := 0) hs hf
 have hbd := exI_bd (z := 0) hs hf
 refine spec_of Tryd.func31 rfl (Nat.le_of_ble_eq_true rfl) ?_
 refine .sr fun _ hK1 => ?_
 refine AK.alloc el32 rfl rfl trivial rfl (fun bx8 => ?_)
 refine .as rfl (.as rfl (.nt hK1 ?_))
 refine .sr fun _ hK2 => ?_
 refine AK.alloc el85 rfl rfl trivial rfl (fun bx11 => ?_)
 refine .nt hK2 ?_
 refine .sr fun _ hK3 => ?_
 refine .mv rfl ?_
 refine AK.own' [bigA [box bx11 85 2 [.slice none 0 0, .map none]], box bx8 32 4 [.int .i64 0, .int .i64 0, .slice none 0 0, .slice none 0 0]] (fun w hw => HW.unflat (l := [_]) (own := [_]) (hw.pick [1, 0] (by decide) rfl rfl)) ?_
 refine AK.callM 0 rfl co45 rfl (fun w F hw hA => s_of0I w F bx11 s hA) trivial rfl ?_
 rintro r A o ⟨vl, mb, sl0, rfl, rfl, rfl⟩
 refine AK.flat0 rfl ?_
 refine .nt hK3 ?_
 refine .sr fun _ hK4 => ?_
 refine .mv rfl ?_
 refine .v (.build (parts := [(0, .tmp 19)]) (cs := #[.int .i64 (L : Int), .int .i64 0, .slice none 0 0, .slice none 0 0]) rfl (by kernel_rfl)) ?_
 refine AK.alloc el32 rfl rfl trivial rfl (fun bx12 => ?_)
 refine AK.storeBox 4 (us := [.int .i64 (L : Int), .int .i64 0, .slice none 0 0, .slice none 0 0]) (cs' := [.int .i64 (L : Int), .int .i64 0, .slice none 0 0, .slice none 0 0]) rfl sz32 rfl rfl rfl rfl oneP (Nat.le_of_ble_eq_true rfl) rfl trivial ?_
 refine .nt hK4 ?_
 refine .seq fun _ hK5 => ?_
 refine .sr fun _ hK6 => ?_
 refine .as rfl (.nt hK6 (.block ?_))
 refine AK.loopK (X := Nat × Value × Value × Value × List Value) [(0, _), (2, _), (3, _), (8, _), (11, _), (12, _)] (fun x => [(13, .int .i64 (x.1 : Int))]) (fun x => [box bx11 85 2 [x.2.1, .map (some mb)], row x.2.1 3 1 (exI f L s 0 x.1).length ((exI f L s 0 x.1).map (Value.int .i64)), mapA mb (mkv (Value.int .i64) (Value.int .i64) (numM (exI f L s 0 x.1))), box bx8 32 4 [.int .i64 0, .int .i64 0, .slice none 0 0, .slice none 0 0], box bx12 32 4 [.int .i64 (L : Int), .int .i64 0, x.2.2.1, x.2.2.2.1], row x.2.2.1 4 1 x.1 ((exG f L s 0 g x.1).map Value.bool), row x.2.2.2.1 41 1 x.1 x.2.2.2.2, bigA (matG (Value.int .i64) 3 x.2.2.2.2 (exN f L s 0 x.1))]) (fun x => x.1 ≤ (exI f L s 0 x.1).length ∧ x.2.2.2.2.length = x.1 ∧ IsSl x.2.1 ∧ IsSl x.2.2.1 ∧ IsSl x.2.2.2.1) (fun x => U.length - x.1) ((0, vl, .slice none 0 0, .slice none 0 0, [])) slr ?_ ?_ ?_ ?_
 ·exact ⟨Nat.zero_le _, rfl, sl0, nilSl, nilSl⟩
 ·exact slr
 ·exact fun w hw => by have h1 := ((hw.ghostG (f := Value.int .i64) 3).ghost 4 1).ghost 41 1; exact h1.pick [0, 1, 2, 3, 4, 6, 7, 5] (by decide) rfl rfl
 ·intro x hg0 _ hK7
  have hb0 := hbd x.1
  have hsF := hg0.2.2.2.1
  have hsN := hg0.2.2.2.2
  refine .seq fun _ hK8 => ?_
  refine .sr fun _ hK9 => ?_
  refine .mv rfl ?_
  refine .v (.fieldAddr fd85_0 rfl) ?_
  refine .v (.loadBox on41 rfl bsp rfl) ?_
  refine .v (.lenR sl41 rfl rdp) ?_
  refine .v (.lss rfl rfl) ?_
  refine .nt hK9 ?_
  refine AK.condD rfl (fun hc0 => ?_) (fun hc0 => ?_)
  ·have hlt : x.1 < (exI f L s 0 x.1).length := (by omega)
   have hqU : ((exI f L s 0 x.1).getD x.1 0) ∈ U := (hok x.1).2 _ (getD_mem hlt)
   have hrb := fun k hk => exR_bd (z := 0) hs hf (k := k) hlt hk
   refine .skip ?_
   refine AK.then_ (hK8 _ ?_)
   refine .seq fun _ hK10 => ?_
   refine .block ?_
   refine .sr fun _ hK11 => ?_
   refine .v (.fieldAddr fd85_0 rfl) ?_
   refine .v (.loadBox on41 rfl bsp rfl) ?_
   refine .mv rfl ?_
   first | refine .v (.iN sl41 rfl rfl) ?_ | refine .v (.iK sl41 rfl rfl) ?_
   refine .v (.loadI on3 rfl rdp (by omega)) ?_
   refine .as rfl (.nt hK11 ?_)
   refine .sr fun _ hK12 => ?_
   refine .mv rfl ?_
   refine AK.make1 (n := L) sl41 el3 rfl rfl rfl (by omega) (by omega) trivial rfl (fun mv => ?_)
   refine .as rfl (.nt hK12 ?_)
   refine .seq fun _ hK13 => ?_
   refine .sr fun _ hK14 => ?_
   refine .mv rfl ?_
   refine .v (.lenR sl41 rfl rdp) ?_
   refine .mv rfl (.nt hK14 (.block ?_))
   refine AK.loopK (X := Nat × Value) [(0, _), (2, _), (3, _), (8, _), (11, _), (12, _), (13, _), (14, _), (15, _), (36, _)] (fun y => [(37, .int .i64 (y.1 : Int))]) (fun y => [box bx11 85 2 [y.2, .map (some mb)], row y.2 3 1 (exR f ((exI f L s 0 x.1).getD x.1 0) (exI f L s 0 x.1) y.1).length ((exR f ((exI f L s 0 x.1).getD x.1 0) (exI f L s 0 x.1) y.1).map (Value.int .i64)), mapA mb (mkv (Value.int .i64) (Value.int .i64) (numM (exR f ((exI f L s 0 x.1).getD x.1 0) (exI f L s 0 x.1) y.1))), box bx8 32 4 [.int .i64 0, .int .i64 0, .slice none 0 0, .slice none 0 0], box bx12 32 4 [.int .i64 (L : Int), .int .i64 0, x.2.2.1, x.2.2.2.1], row x.2.2.1 4 1 x.1 ((exG f L s 0 g x.1).map Value.bool), row x.2.2.2.1 41 1 x.1 x.2.2.2.2, bigA (matG (Value.int .i64) 3 x.2.2.2.2 (exN f L s 0 x.1)), row mv 3 1 L (((exW f ((exI f L s 0 x.1).getD x.1 0) (exI f L s 0 x.1) y.1) ++ List.replicate (L - y.1) 0).map (Value.int .i64))]) (fun y => y.1 ≤ L ∧ IsSl y.2) (fun y => L - y.1) ((0, x.2.1)) slr ?_ ?_ ?_ ?_
   ·exact ⟨Nat.zero_le _, hg0.2.2.1⟩
   ·exact slr
   ·exact fun w hw => by have e : (((exW f ((exI f L s 0 x.1).getD x.1 0) (exI f L s 0 x.1) 0) ++ List.replicate (L - 0) 0).map (Value.int .i64)) = List.replicate L (Value.int .i64 0) := (by simp [exW]); rw [e]; exact hw
   ·intro y hg1 _ hK15
    refine .sr fun _ hK16 => ?_
    refine .v (.lss rfl rfl) ?_
    refine .nt hK16 ?_
    refine .seq fun _ hK17 => ?_
    refine AK.condD rfl (fun hc1 => ?_) (fun hc1 => ?_)
    ·refine .skip ?_
     refine AK.then_ (hK17 _ ?_)
     refine .seq fun _ hK18 => ?_
     refine .block ?_
     refine .sr fun _ hK19 => ?_
     refine .mv rfl (.as rfl (.nt hK19 ?_))
     refine AK.region ?_
     refine .mv rfl (.mv rfl (.mv rfl (.mv rfl (.mv rfl ?_))))
     refine AK.callV hcN rfl rfl (fun w hw => hN w hw.frame _ hqU y.1 (by omega)) trivial rfl ?_
     rintro r o ⟨rfl, rfl⟩
     refine AK.own' (bigA [box bx11 85 2 [y.2, .map (some mb)], row y.2 3 1 (exR f ((exI f L s 0 x.1).getD x.1 0) (exI f L s 0 x.1) y.1).length ((exR f ((exI f L s 0 x.1).getD x.1 0) (exI f L s 0 x.1) y.1).map (Value.int .i64)), mapA mb (mkv (Value.int .i64) (Value.int .i64) (numM (exR f ((exI f L s 0 x.1).getD x.1 0) (exI f L s 0 x.1) y.1)))] :: [box bx8 32 4 [.int .i64 0, .int .i64 0, .slice none 0 0, .slice none 0 0], box bx12 32 4 [.int .i64 (L : Int), .int .i64 0, x.2.2.1, x.2.2.2.1], row x.2.2.1 4 1 x.1 ((exG f L s 0 g x.1).map Value.bool), row x.2.2.2.1 41 1 x.1 x.2.2.2.2, bigA (matG (Value.int .i64) 3 x.2.2.2.2 (exN f L s 0 x.1)), row mv 3 1 L (((exW f ((exI f L s 0 x.1).getD x.1 0) (exI f L s 0 x.1) y.1) ++ List.replicate (L - y.1) 0).map (Value.int .i64))]) (fun w hw => HW.unflat (l := [_, _, _]) (own := [_, _, _, _, _, _]) (hw.pick [0, 1, 2, 3, 4, 5, 6, 7, 8] (by decide) rfl rfl)) ?_
     refine AK.callM 0 rfl co45 rfl (fun w F hw hA => s_ofI w F bx11 mb y.2 (exR f ((exI f L s 0 x.1).getD x.1 0) (exI f L s 0 x.1) y.1) (f ((exI f L s 0 x.1).getD x.1 0) y.1) (by have := hrb y.1 (by omega); omega) hg1.2 hA) trivial rfl ?_
     rintro r A o ⟨va, sa, rfl, rfl, rfl⟩
     refine AK.flat0 rfl ?_
     first | refine .v (.iN sl41 rfl rfl) ?_ | refine .v (.iK sl41 rfl rfl) ?_
     refine AK.store1e 8 rfl sz3 rfl rfl rfl rfl (by omega) (cs' := (((exW f ((exI f L s 0 x.1).getD x.1 0) (exI f L s 0 x.1) (y.1 + 1)) ++ List.replicate (L - (y.1 + 1)) 0).map (Value.int .i64))) (by exact fill_set (Value.int .i64) (exW f ((exI f L s 0 x.1).getD x.1 0) (exI f L s 0 x.1) y.1) 0 _ L y.1 (exW_len _ _ _ _) (by omega)) trivial ?_
     refine .nil (.block_normal ?_)
     refine AK.then_ (hK18 _ ?_)
     refine AK.region ?_
     refine .v (.add rfl rfl (by omega)) ?_
     refine .mv rfl (.nil ?_)
     refine AK.then_ (hK15 _ _ ((y.1 + 1, va)) ⟨by dsimp only; omega, sa⟩ (by dsimp only; omega) (slr) (fun w hw => hw))
    ·refine AK.shape 8 rfl (fun hsr => ?_)
     have hyL : y.1 = L := (by omega)
     refine .exit (.then_exit (.then_exit (.block_exit ?_)))
     refine AK.then_ (hK13 _ ?_)
     refine .seq fun _ hK20 => ?_
     refine .sr fun _ hK21 => ?_
     refine .v (.fieldAddr fd85_0 rfl) ?_
     refine .v (.loadBox on41 rfl bsp rfl) ?_
     refine .v (.lenR sl41 rfl rdp) ?_
     refine .v (.gtr rfl rfl) ?_
     refine .nt hK21 ?_
     refine AK.cond_f rfl (decide_eq_false (by have := hrb y.1 (by omega); omega)) ?_
     refine .skip ?_
     refine AK.then_ (hK20 _ ?_)
     refine .sr fun _ hK22 => ?_
     refine .v (.fieldAddr fd32_3 rfl) ?_
     refine .v (.loadBox on30 rfl bsp rfl) ?_
     refine .mv rfl ?_
     refine AK.append1 6 rfl sl30 el41 rfl (by decide) rfl (by intro k hk; cases hk; rfl) (by rw [hsr.cells]; rfl) (by rw [hsr.cells]; exact one'_cons hsr.one one'_nil) (by omega) (by omega) (by decide) rfl rfl (fun vn2 _ hn2 => ?_)
     refine .v (.fieldAddr fd32_3 rfl) ?_
     refine AK.storeBox 4 (us := [vn2]) (cs' := [.int .i64 (L : Int), .int .i64 0, x.2.2.1, vn2]) rfl sz30 rfl rfl (by rw [IsSl.cells (by assumption)]) rfl oneP (Nat.le_of_ble_eq_true rfl) rfl trivial ?_
     refine .nt hK22 ?_
     try (conv => enter [2, 2]; dsimp only [List.set_cons_zero, List.set_cons_succ, List.cons_append, List.nil_append])
     refine AK.held 8 mixed ?_
     refine HeldK.first 0 (fuel := 8) (listed' := (lb 9 1)) _ rfl krf krf rfl (Yl.fieldAddr fd32_2 rfl) trivial rfl ?_
     refine HeldK.first 1 (fuel := 7) (listed' := (lb 9 3)) _ rfl krf krf rfl (Yl.loadBox on29 rfl bsp rfl) trivial rfl ?_
     refine HeldK.first 2 (fuel := 6) (listed' := (lb 9 7)) _ rfl krf krf rfl (Yl.move rfl) trivial rfl ?_
     refine HeldK.first 3 (fuel := 5) (listed' := (lb 9 15)) _ rfl krf krf rfl (Yl.move rfl) trivial rfl ?_
     refine HeldK.one 4 (fuel := 4) (listed' := (lb 9 31)) krf rfl krf ?_
     refine AK.callV hcG rfl rfl (fun w hw => hG w hw.frame _ hqU) trivial rfl ?_
     rintro r o ⟨rfl, rfl⟩
     refine .nil ?_
     try (conv => enter [2, 2]; dsimp only [List.set_cons_zero, List.set_cons_succ, List.cons_append, List.nil_append])
     refine HeldK.back Go.Sx.hle ?_
     refine HeldK.one 5 (fuel := 3) (listed' := (lb 9 63)) krf rfl krf ?_
     refine AK.lit (xs := [.tmp 64]) sl29 el4 rfl rfl rfl (by simp [Value.cells]) (by decide) (by decide) trivial rfl (fun lg => ?_)
     refine .nil ?_
     try (conv => enter [2, 2]; dsimp only [List.set_cons_zero, List.set_cons_succ, List.cons_append, List.nil_append])
     refine HeldK.back Go.Sx.hle ?_
     refine HeldK.one 6 (fuel := 2) (listed' := (lb 9 127)) krf rfl krf ?_
     refine AK.appendH 5 rfl sl29 el4 rfl (by decide) rfl rfl rfl rdp oneP (by omega) (by omega) trivial rfl (fun vf2 hf2 => ?_)
     refine .nil ?_
     try (conv => enter [2, 2]; dsimp only [List.set_cons_zero, List.set_cons_succ, List.cons_append, List.nil_append])
     refine HeldK.back Go.Sx.hle ?_
     refine HeldK.first 7 (fuel := 1) (listed' := (lb 9 255)) _ rfl krf krf rfl (Yl.fieldAddr fd32_2 rfl) trivial rfl ?_
     refine HeldK.one 8 (fuel := 0) (listed' := (lb 9 511)) krf rfl krf ?_
     refine AK.storeBox 4 (us := [vf2]) (cs' := [.int .i64 (L : Int), .int .i64 0, vf2, vn2]) rfl sz29 rfl rfl (by rw [IsSl.cells (by assumption)]) rfl oneP (Nat.le_of_ble_eq_true rfl) rfl trivial ?_
     refine .nil ?_
     try (conv => enter [2, 2]; dsimp only [List.set_cons_zero, List.set_cons_succ, List.cons_append, List.nil_append])
     refine HeldK.backN 9 krf rfl krf ?_
     refine .nil ?_
     refine AK.fromQn ?_
     refine .block_normal ?_
     refine AK.then_ (hK10 _ ?_)
     refine AK.region ?_
     refine .mv rfl ?_
     refine .v (.add rfl rfl (by omega)) ?_
     refine .as rfl (.nil ?_)
     refine AK.then_ (hK7 _ _ ((x.1 + 1, y.2, vf2, vn2, x.2.2.2.2 ++ [mv])) ⟨by dsimp only; rw [exI_next hlt]; have := exR_pre f ((exI f L s 0 x.1).getD x.1 0) (exI f L s 0 x.1) L; obtain ⟨ys, e⟩ := this; rw [e, List.length_append]; omega, by simp [hg0.2.1], hg1.2, hf2, hn2⟩ (by dsimp only; omega) (slr) (fun w hw => by
  dsimp only
  have e2 : matG (Value.int .i64) 3 (x.2.2.2.2 ++ [mv]) (exN f L s 0 (x.1 + 1)) = matG (Value.int .i64) 3 x.2.2.2.2 (exN f L s 0 x.1) ++ [row mv 3 1 (exW f ((exI f L s 0 x.1).getD x.1 0) (exI f L s 0 x.1) L).length ((exW f ((exI f L s 0 x.1).getD x.1 0) (exI f L s 0 x.1) L).map (Value.int .i64))] := matG_snoc (by rw [exN_len]; exact hg0.2.1) mv _
  have e3 : mv.cells.toList = [mv] := (by rw [hsr.cells])
  have e4 : L - y.1 = 0 := (by omega)
  rw [e3, e4] at hw
  rw [e2, exI_next hlt, exW_len]
  rw [hyL] at hw
  have e5 : (exG f L s 0 g (x.1 + 1)).map Value.bool = (exG f L s 0 g x.1).map Value.bool ++ [Value.bool (g ((exI f L s 0 x.1).getD x.1 0))].flatMap (·.cells.toList) := (by simp [exG, Value.cells])
  rw [e5]
  have h2 := hw.pickLe (L := [_, _, _, _, _, row vf2 4 1 (x.1 + 1) ((exG f L s 0 g x.1).map Value.bool ++ [Value.bool (g ((exI f L s 0 x.1).getD x.1 0))].flatMap (·.cells.toList)), _, _, _]) [0, 1, 2, 3, 4, 5, 6, 7, 8] (by decide) pkl
  rw [List.replicate_zero, List.append_nil] at h2
  exact HW.absorb (own := [_, _, _, _, _, _, _, _]) 7 rfl h2))
  ·refine .exit (.then_exit (.then_exit (.block_exit ?_)))
   refine AK.then_ (hK5 _ ?_)
   refine .seq fun _ hK23 => ?_
   try (conv => enter [2, 2]; dsimp only [List.set_cons_zero, List.set_cons_succ, List.cons_append, List.nil_append])
   refine AK.heldS _ 6 (fun _ hw => hw.pick [0, 1, 2, 4, 5, 6, 7] (by decide) rfl rfl) mixed ?_
   refine HeldK.firstS (fun _ hw => hw.pick [0, 1, 2, 4, 5, 6, 7] (by decide) rfl rfl) 0 (fuel := 5) (listed' := (lb 6 1)) _ rfl krf krf rfl (Yl.loadBoxG ag32 rfl bsp rfl rfl) trivial rfl ?_
   refine HeldK.firstS (fun _ hw => hw.pick [0, 1, 2, 4, 5, 6, 7] (by decide) rfl rfl) 1 (fuel := 4) (listed' := (lb 6 3)) _ rfl krf krf rfl (Yl.fieldAddr fd85_0 rfl) trivial rfl ?_
   refine HeldK.firstS (fun _ hw => hw.pick [0, 1, 2, 4, 5, 6, 7] (by decide) rfl rfl) 2 (fuel := 3) (listed' := (lb 6 7)) _ rfl krf krf rfl (Yl.loadBox on41 rfl bsp rfl) trivial rfl ?_
   refine HeldK.one 3 (fuel := 2) (listed' := (lb 6 15)) krf rfl krf ?_
   refine AK.storeBox 3 (us := [.int .i64 (L : Int), .int .i64 0, x.2.2.1, x.2.2.2.1]) (cs' := [.int .i64 (L : Int), .int .i64 0, x.2.2.1, x.2.2.2.1]) rfl sz32 rfl rfl rfl rfl oneP (Nat.le_of_ble_eq_true rfl) rfl trivial ?_
   refine .nil ?_
   try (conv => enter [2, 2]; dsimp only [List.set_cons_zero, List.set_cons_succ, List.cons_append, List.nil_append])
   refine HeldK.backS (fun _ hw => hw.pick [0, 1, 2, 4, 5, 6, 7] (by decide) rfl rfl) ?_
   refine HeldK.firstS (fun _ hw => hw.pick [0, 1, 2, 4, 5, 6, 7] (by decide) rfl rfl) 4 (fuel := 1) (listed' := (lb 6 31)) _ rfl krf krf rfl (Yl.assign rfl) trivial rfl ?_
   refine HeldK.firstS (fun _ hw => hw.pick [0, 1, 2, 4, 5, 6, 7] (by decide) rfl rfl) 5 (fuel := 0) (listed' := (lb 6 63)) _ rfl krf krf rfl (Yl.assign rfl) trivial rfl ?_
   refine HeldK.done krf ?_
   refine AK.then_ (hK23 _ ?_)
   refine .ret ?_
   refine AK.own' ([box bx11 85 2 [x.2.1, .map (some mb)], row x.2.1 3 1 (exI f L s 0 x.1).length ((exI f L s 0 x.1).map (Value.int .i64)), mapA mb (mkv (Value.int .i64) (Value.int .i64) (numM (exI f L s 0 x.1))), box bx8 32 4 [.int .i64 (L : Int), .int .i64 0, x.2.2.1, x.2.2.2.1], box bx12 32 4 [.int .i64 (L : Int), .int .i64 0, x.2.2.1, x.2.2.2.1], row x.2.2.1 4 1 x.1 ((exG f L s 0 g x.1).map Value.bool), row x.2.2.2.1 41 1 x.1 x.2.2.2.2, bigA (matG (Value.int .i64) 3 x.2.2.2.2 (exN f L s 0 x.1))]) (fun w hw => hw) ?_
   refine AK.retG [.cell 8 32, .tmp 9, .tmp 10] rfl (.cons (.cell ag32 rfl bsp rfl rfl) (.cons (.tmp rfl) (.cons (.tmp rfl) (.nil)))) (fun w hw => ⟨_, _, ?_, rfl, Ret.of (hw.pick [5, 6, 7, 1] (by decide) rfl rfl)⟩)
   refine ⟨x.1, x.2.1, x.2.2.1, x.2.2.2.1, x.2.2.2.2, by omega, hg0.2.1, hg0.2.2.1, hg0.2.2.2.1, hg0.2.2.2.2, rfl, ?_⟩
   unfold dfaO
   rw [exG_len, exN_len]; rfl

end Go.Proofs.YtckicbgffhbacaaDoor
