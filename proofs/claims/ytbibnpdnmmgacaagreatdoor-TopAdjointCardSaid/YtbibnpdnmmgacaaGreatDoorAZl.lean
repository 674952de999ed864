import Derived.Test.YtbibnpdnmmgacaaGreatDoorAZk
set_option linter.unusedVariables false
set_option linter.unusedSimpArgs false
set_option maxRecDepth 100000
namespace Go.Proofs.YtbibnpdnmmgacaaGreatDoor
open Go.Sx Go.RowKit
set_option maxHeartbeats 1000000 in
theorem s_exploreLP (w : World) (L : Nat) (s1 s2 : Int) (f : (Int × Int) → Nat → (Int × Int)) (g : (Int × Int) → Bool) (Pk : (Int × Int) → Prop) (fN fG : Nat) (cN cG : List Value) (hL : 1 ≤ L ∧ L ≤ 6) (hs : Pk (s1, s2)) (hf : ∀ q, Pk q → ∀ x, x < L → Pk (f q x)) (hcN : CallOk Tryz.prog fN) (hcG : CallOk Tryz.prog fG) (hN : ∀ w', FrameX (fun _ => False) w w' → ∀ q, Pk q → ∀ x, x < L → CallS Tryz.prog fN ([(pv q), .int .i64 (x : Int)] ++ cN) w' (fun r o => r = (pv (f q x)) ∧ o = [])) (hG : ∀ w', FrameX (fun _ => False) w w' → ∀ q, Pk q → CallS Tryz.prog fG ([(pv q)] ++ cG) w' (fun r o => r = .bool (g q) ∧ o = [])) : CallS Tryz.prog 120 [.int .i64 (L : Int), pv (s1, s2), .func (.func fN) #[] cN.toArray, .func (.func fG) #[] cG.toArray] w (fun r o => ∃ (d : Dfa) (e : Int) (vL vF vN : Value) (rs : List Value), ((e = 3 ∧ d = nilD) ∨ (e = 0 ∧ ExpD (L : Int) L f (s1, s2) g d)) ∧ rs.length = d.nx.length ∧ IsSl vL ∧ IsSl vF ∧ IsSl vN ∧ r = .tuple #[.agg #[.int .i64 d.L, .int .i64 d.s, vF, vN], vL, .int .i64 e] ∧ o = dfaO 4 3 67 vF vN rs d) := by
 have hok := exI_allP (z := (0, 0)) (L := L) hs hf
 refine spec_of Tryz.func120 rfl (leb rfl) ?_
 refine .sr fun _ hK1 => ?_
 refine AK.box_ (E := 164) (cs := [.int .i64 s1, .int .i64 s2]) rfl rfl rfl trivial rfl (fun bx5 => ?_)
 refine AK.alloc el32 rfl rfl trivial rfl (fun bx8 => ?_)
 refine .as rfl (.as rfl (.nt hK1 ?_))
 refine .sr fun _ hK2 => ?_
 refine AK.alloc el209 rfl rfl trivial rfl (fun bx11 => ?_)
 refine .nt hK2 ?_
 refine .sr fun _ hK3 => ?_
 refine .v (.loadBoxP ag164 rfl bsp) ?_
 refine AK.own' [bigA [box bx11 209 2 [.slice none 0 0, .map none]], box bx8 32 4 [.int .i64 0, .int .i64 0, .slice none 0 0, .slice none 0 0]] (fun w hw => HW.unflat (l := [_]) (own := [_]) (hw.pick [2, 1] (by decide) rfl rfl)) ?_
 refine AK.callM 0 rfl co166 rfl (fun w F hw hA => s_of0P w F bx11 s1 s2 hA) trivial rfl ?_
 rintro r A o ⟨vl, mb, sl0, rfl, rfl, rfl⟩
 refine AK.flat0 rfl ?_
 refine .nt hK3 ?_
 refine .sr fun _ hK4 => ?_
 refine .mv rfl ?_
 refine .v (.build (parts := [(0, .tmp 19)]) (cs := #[.int .i64 (L : Int), .int .i64 0, .slice none 0 0, .slice none 0 0]) rfl (by kernel_rfl)) ?_
 refine AK.alloc el32 rfl rfl trivial rfl (fun bx12 => ?_)
 refine AK.storeBox 4 (us := [.int .i64 (L : Int), .int .i64 0, .slice none 0 0, .slice none 0 0]) (cs' := [.int .i64 (L : Int), .int .i64 0, .slice none 0 0, .slice none 0 0]) rfl sz32 rfl rfl rfl rfl oneP (leb rfl) rfl trivial ?_
 refine .nt hK4 ?_
 refine .seq fun _ hK5 => ?_
 refine .sr fun _ hK6 => ?_
 refine .as rfl (.nt hK6 (.block ?_))
 refine AK.loopK (X := Nat × Value × Value × Value × List Value) [(0, _), (2, _), (3, _), (8, _), (11, _), (12, _)] (fun x => [(13, .int .i64 (x.1 : Int))]) (fun x => [box bx11 209 2 [x.2.1, .map (some mb)], row x.2.1 164 2 (exI f L (s1, s2) (0, 0) x.1).length (pcs (exI f L (s1, s2) (0, 0) x.1)), mapA mb (mkv pv (Value.int .i64) (numM (exI f L (s1, s2) (0, 0) x.1))), box bx8 32 4 [.int .i64 0, .int .i64 0, .slice none 0 0, .slice none 0 0], box bx12 32 4 [.int .i64 (L : Int), .int .i64 0, x.2.2.1, x.2.2.2.1], row x.2.2.1 4 1 x.1 ((exG f L (s1, s2) (0, 0) g x.1).map Value.bool), row x.2.2.2.1 67 1 x.1 x.2.2.2.2, bigA (matG (Value.int .i64) 3 x.2.2.2.2 (exN f L (s1, s2) (0, 0) x.1))]) (fun x => x.1 ≤ (exI f L (s1, s2) (0, 0) x.1).length ∧ x.2.2.2.2.length = x.1 ∧ IsSl x.2.1 ∧ IsSl x.2.2.1 ∧ IsSl x.2.2.2.1 ∧ (exI f L (s1, s2) (0, 0) x.1).length ≤ 512) (fun x => 513 - x.1) ((0, vl, .slice none 0 0, .slice none 0 0, [])) slr ?_ ?_ ?_ ?_
 ·exact ⟨Nat.zero_le _, rfl, sl0, nilSl, nilSl, by simp [exI]⟩
 ·exact slr
 ·exact fun w hw => by have h1 := ((hw.ghostG (f := Value.int .i64) 3).ghost 4 1).ghost 67 1; exact h1.pick [0, 1, 2, 3, 4, 6, 7, 5] (by decide) rfl rfl
 ·intro x hg0 _ hK7
  have hb0 := hg0.2.2.2.2.2
  have hsF := hg0.2.2.2.1
  have hsN := hg0.2.2.2.2.1
  refine .seq fun _ hK8 => ?_
  refine .sr fun _ hK9 => ?_
  refine .mv rfl (.v (.fieldAddr fd209_0 rfl) (.v (.loadBox on161 rfl bsp rfl) (.v (.lenR sl161 rfl rdp) (.v (.lss rfl rfl) (.nt hK9 ?_)))))
  refine AK.condD rfl (fun hc0 => ?_) (fun hc0 => ?_)
  ·have hlt : x.1 < (exI f L (s1, s2) (0, 0) x.1).length := (by omega)
   have hqU : Pk ((exI f L (s1, s2) (0, 0) x.1).getD x.1 (0, 0)) := hok x.1 _ (getD_mem hlt)
   have hrb := fun k => exR_le f ((exI f L (s1, s2) (0, 0) x.1).getD x.1 (0, 0)) (exI f L (s1, s2) (0, 0) x.1) k
   refine .skip ?_
   refine AK.then_ (hK8 _ ?_)
   refine .seq fun _ hK10 => ?_
   refine .block ?_
   refine .sr fun _ hK11 => ?_
   refine .v (.fieldAddr fd209_0 rfl) (.v (.loadBox on161 rfl bsp rfl) (.mv rfl ?_))
   first | refine .v (.iN sl161 rfl rfl) ?_ | refine .v (.iK sl161 rfl rfl) ?_
   refine .v (.loadP ag164 rfl rdp (by omega)) ?_
   refine AK.alloc el164 rfl rfl trivial rfl (fun bx14 => ?_)
   refine AK.storeBox 8 (us := [.int .i64 ((exI f L (s1, s2) (0, 0) x.1).getD x.1 (0, 0)).1, .int .i64 ((exI f L (s1, s2) (0, 0) x.1).getD x.1 (0, 0)).2]) (cs' := [.int .i64 ((exI f L (s1, s2) (0, 0) x.1).getD x.1 (0, 0)).1, .int .i64 ((exI f L (s1, s2) (0, 0) x.1).getD x.1 (0, 0)).2]) rfl sz164 rfl rfl rfl rfl oneP (leb rfl) rfl trivial ?_
   refine .nt hK11 ?_
   refine .sr fun _ hK12 => ?_
   refine .mv rfl ?_
   refine AK.make1 (n := L) sl67 el3 rfl rfl rfl (by omega) (by omega) trivial rfl (fun mv => ?_)
   refine .as rfl (.nt hK12 ?_)
   refine .seq fun _ hK13 => ?_
   refine .sr fun _ hK14 => ?_
   refine .mv rfl (.v (.lenR sl67 rfl rdp) (.mv rfl (.nt hK14 (.block ?_))))
   refine AK.loopK (X := Nat × Value) [(0, _), (2, _), (3, _), (8, _), (11, _), (12, _), (13, _), (14, _), (15, _), (36, _)] (fun y => [(37, .int .i64 (y.1 : Int))]) (fun y => [box bx11 209 2 [y.2, .map (some mb)], row y.2 164 2 (exR f ((exI f L (s1, s2) (0, 0) x.1).getD x.1 (0, 0)) (exI f L (s1, s2) (0, 0) x.1) y.1).length (pcs (exR f ((exI f L (s1, s2) (0, 0) x.1).getD x.1 (0, 0)) (exI f L (s1, s2) (0, 0) x.1) y.1)), mapA mb (mkv pv (Value.int .i64) (numM (exR f ((exI f L (s1, s2) (0, 0) x.1).getD x.1 (0, 0)) (exI f L (s1, s2) (0, 0) x.1) y.1))), box bx8 32 4 [.int .i64 0, .int .i64 0, .slice none 0 0, .slice none 0 0], box bx12 32 4 [.int .i64 (L : Int), .int .i64 0, x.2.2.1, x.2.2.2.1], row x.2.2.1 4 1 x.1 ((exG f L (s1, s2) (0, 0) g x.1).map Value.bool), row x.2.2.2.1 67 1 x.1 x.2.2.2.2, bigA (matG (Value.int .i64) 3 x.2.2.2.2 (exN f L (s1, s2) (0, 0) x.1)), box bx14 164 2 [.int .i64 ((exI f L (s1, s2) (0, 0) x.1).getD x.1 (0, 0)).1, .int .i64 ((exI f L (s1, s2) (0, 0) x.1).getD x.1 (0, 0)).2], row mv 3 1 L (((exW f ((exI f L (s1, s2) (0, 0) x.1).getD x.1 (0, 0)) (exI f L (s1, s2) (0, 0) x.1) y.1) ++ List.replicate (L - y.1) 0).map (Value.int .i64))]) (fun y => y.1 ≤ L ∧ IsSl y.2) (fun y => L - y.1) ((0, x.2.1)) slr ?_ ?_ ?_ ?_
   ·exact ⟨Nat.zero_le _, hg0.2.2.1⟩
   ·exact slr
   ·exact fun w hw => by have e : (((exW f ((exI f L (s1, s2) (0, 0) x.1).getD x.1 (0, 0)) (exI f L (s1, s2) (0, 0) x.1) 0) ++ List.replicate (L - 0) 0).map (Value.int .i64)) = List.replicate L (Value.int .i64 0) := (by simp [exW]); rw [e]; exact hw
   ·intro y hg1 _ hK15
    refine .sr fun _ hK16 => ?_
    refine .v (.lss rfl rfl) (.nt hK16 ?_)
    refine .seq fun _ hK17 => ?_
    refine AK.condD rfl (fun hc1 => ?_) (fun hc1 => ?_)
    ·refine .skip ?_
     refine AK.then_ (hK17 _ ?_)
     refine .seq fun _ hK18 => ?_
     refine .block ?_
     refine .sr fun _ hK19 => ?_
     refine .mv rfl (.as rfl (.nt hK19 ?_))
     refine AK.region ?_
     refine .mv rfl (.mv rfl (.mv rfl (.v (.loadBoxP ag164 rfl bsp) (.mv rfl ?_))))
     refine AK.callV hcN rfl rfl (fun w hw => hN w hw.frame _ hqU y.1 (by omega)) trivial rfl ?_
     rintro r o ⟨rfl, rfl⟩
     refine AK.own' (bigA [box bx11 209 2 [y.2, .map (some mb)], row y.2 164 2 (exR f ((exI f L (s1, s2) (0, 0) x.1).getD x.1 (0, 0)) (exI f L (s1, s2) (0, 0) x.1) y.1).length (pcs (exR f ((exI f L (s1, s2) (0, 0) x.1).getD x.1 (0, 0)) (exI f L (s1, s2) (0, 0) x.1) y.1)), mapA mb (mkv pv (Value.int .i64) (numM (exR f ((exI f L (s1, s2) (0, 0) x.1).getD x.1 (0, 0)) (exI f L (s1, s2) (0, 0) x.1) y.1)))] :: [box bx8 32 4 [.int .i64 0, .int .i64 0, .slice none 0 0, .slice none 0 0], box bx12 32 4 [.int .i64 (L : Int), .int .i64 0, x.2.2.1, x.2.2.2.1], row x.2.2.1 4 1 x.1 ((exG f L (s1, s2) (0, 0) g x.1).map Value.bool), row x.2.2.2.1 67 1 x.1 x.2.2.2.2, bigA (matG (Value.int .i64) 3 x.2.2.2.2 (exN f L (s1, s2) (0, 0) x.1)), box bx14 164 2 [.int .i64 ((exI f L (s1, s2) (0, 0) x.1).getD x.1 (0, 0)).1, .int .i64 ((exI f L (s1, s2) (0, 0) x.1).getD x.1 (0, 0)).2], row mv 3 1 L (((exW f ((exI f L (s1, s2) (0, 0) x.1).getD x.1 (0, 0)) (exI f L (s1, s2) (0, 0) x.1) y.1) ++ List.replicate (L - y.1) 0).map (Value.int .i64))]) (fun w hw => HW.unflat (l := [_, _, _]) (own := [_, _, _, _, _, _, _]) (hw.pick [0, 1, 2, 3, 4, 5, 6, 7, 8, 9] (by decide) rfl rfl)) ?_
     refine AK.callM 0 rfl co166 rfl (fun w F hw hA => s_ofP w F bx11 mb y.2 (exR f ((exI f L (s1, s2) (0, 0) x.1).getD x.1 (0, 0)) (exI f L (s1, s2) (0, 0) x.1) y.1) (f ((exI f L (s1, s2) (0, 0) x.1).getD x.1 (0, 0)) y.1).1 (f ((exI f L (s1, s2) (0, 0) x.1).getD x.1 (0, 0)) y.1).2 (by have := hrb y.1; omega) hg1.2 hA) trivial rfl ?_
     rintro r A o ⟨va, sa, rfl, rfl, rfl⟩
     refine AK.flat0 rfl ?_
     first | refine .v (.iN sl67 rfl rfl) ?_ | refine .v (.iK sl67 rfl rfl) ?_
     refine AK.store1e 9 rfl sz3 rfl rfl rfl rfl (by omega) (cs' := (((exW f ((exI f L (s1, s2) (0, 0) x.1).getD x.1 (0, 0)) (exI f L (s1, s2) (0, 0) x.1) (y.1 + 1)) ++ List.replicate (L - (y.1 + 1)) 0).map (Value.int .i64))) (by exact fill_set (Value.int .i64) (exW f ((exI f L (s1, s2) (0, 0) x.1).getD x.1 (0, 0)) (exI f L (s1, s2) (0, 0) x.1) y.1) 0 _ L y.1 (exW_len _ _ _ _) (by omega)) trivial ?_
     refine .nil (.block_normal ?_)
     refine AK.then_ (hK18 _ ?_)
     refine AK.region ?_
     refine .v (.add rfl rfl (by omega)) ?_
     refine .mv rfl (.nil ?_)
     refine AK.then_ (hK15 _ _ ((y.1 + 1, va)) ⟨by dsimp only; omega, sa⟩ (by dsimp only; omega) (slr) (fun w hw => hw))
    ·refine AK.shape 9 rfl (fun hsr => ?_)
     have hyL : y.1 = L := (by omega)
     refine .exit (.then_exit (.then_exit (.block_exit ?_)))
     refine AK.then_ (hK13 _ ?_)
     refine .seq fun _ hK20 => ?_
     refine .sr fun _ hK21 => ?_
     refine .v (.fieldAddr fd209_0 rfl) (.v (.loadBox on161 rfl bsp rfl) (.v (.lenR sl161 rfl rdp) (.v (.gtr rfl rfl) (.nt hK21 ?_))))
     refine AK.condD rfl (fun hc2 => ?_) (fun hc2 => ?_)
     ·refine .sr fun _ hK22 => ?_
      refine .v (.build (parts := []) (cs := #[.int .i64 0, .int .i64 0, .slice none 0 0, .slice none 0 0]) rfl (by kernel_rfl)) ?_
      refine AK.storeBox 3 (us := [.int .i64 0, .int .i64 0, .slice none 0 0, .slice none 0 0]) (cs' := [.int .i64 0, .int .i64 0, .slice none 0 0, .slice none 0 0]) rfl sz32 rfl rfl rfl rfl oneP (leb rfl) rfl trivial ?_
      refine .as rfl (.as rfl (.nt hK22 (.ret (.then_ret (.block_ret (.then_ret (.then_ret (.block_ret (.then_ret ?_)))))))))
      refine AK.own' (dfaO 4 3 67 (.slice none 0 0) (.slice none 0 0) [] nilD ++ [box bx8 32 4 [.int .i64 0, .int .i64 0, .slice none 0 0, .slice none 0 0]]) (fun w hw => by have h1 := (((hw.pick [3] (by decide) rfl rfl).ghost 4 1).ghost 67 1).ghostG (f := Value.int .i64) 3; exact h1.pick [1, 2, 3, 0] (by decide) rfl rfl) ?_
      refine AK.retG [.cell 8 32, .tmp 9, .tmp 10] rfl (.cons (.cell ag32 rfl bsp rfl rfl) (.cons (.tmp rfl) (.cons (.tmp rfl) (.nil)))) (fun w hw => ⟨_, _, ?_, rfl, Ret.of (hw.pick [0, 1, 2] (by decide) rfl rfl)⟩)
      exact ⟨nilD, 3, .slice none 0 0, .slice none 0 0, .slice none 0 0, [], .inl ⟨rfl, rfl⟩, rfl, nilSl, nilSl, nilSl, rfl, rfl⟩
     ·refine .skip ?_
      refine AK.then_ (hK20 _ ?_)
      refine .sr fun _ hK23 => ?_
      refine .v (.fieldAddr fd32_3 rfl) (.v (.loadBox on30 rfl bsp rfl) (.mv rfl ?_))
      refine AK.append1 6 rfl sl30 el67 rfl (by decide) rfl (by intro k hk; cases hk; rfl) (by rw [hsr.cells]; rfl) (by rw [hsr.cells]; exact one'_cons hsr.one one'_nil) (by omega) (by omega) (by decide) rfl rfl (fun vn2 _ hn2 => ?_)
      refine .v (.fieldAddr fd32_3 rfl) ?_
      refine AK.storeBox 4 (us := [vn2]) (cs' := [.int .i64 (L : Int), .int .i64 0, x.2.2.1, vn2]) rfl sz30 rfl rfl (by rw [IsSl.cells (by assumption)]) rfl oneP (leb rfl) rfl trivial ?_
      refine .nt hK23 ?_
      try (conv => enter [2, 2]; simp only [nrm])
      refine AK.held 8 mixed ?_
      refine HeldK.first 0 (fuel := 8) (listed' := (lb 9 1)) _ rfl krf krf rfl (Yl.fieldAddr fd32_2 rfl) trivial rfl ?_
      refine HeldK.first 1 (fuel := 7) (listed' := (lb 9 3)) _ rfl krf krf rfl (Yl.loadBox on29 rfl bsp rfl) trivial rfl ?_
      refine HeldK.first 2 (fuel := 6) (listed' := (lb 9 7)) _ rfl krf krf rfl (Yl.move rfl) trivial rfl ?_
      refine HeldK.first 3 (fuel := 5) (listed' := (lb 9 15)) _ rfl krf krf rfl (Yl.loadBoxP ag164 rfl bsp) trivial rfl ?_
      refine HeldK.one 4 (fuel := 4) (listed' := (lb 9 31)) krf rfl krf ?_
      refine AK.callV hcG rfl rfl (fun w hw => hG w hw.frame _ hqU) trivial rfl ?_
      rintro r o ⟨rfl, rfl⟩
      refine .nil ?_
      try (conv => enter [2, 2]; simp only [nrm])
      refine HeldK.back Go.Sx.hle ?_
      refine HeldK.one 5 (fuel := 3) (listed' := (lb 9 63)) krf rfl krf ?_
      refine AK.lit (xs := [.tmp 64]) sl29 el4 rfl rfl rfl (by simp [Value.cells]) (by decide) (by decide) trivial rfl (fun lg => ?_)
      refine .nil ?_
      try (conv => enter [2, 2]; simp only [nrm])
      refine HeldK.back Go.Sx.hle ?_
      refine HeldK.one 6 (fuel := 2) (listed' := (lb 9 127)) krf rfl krf ?_
      refine AK.appendH 5 rfl sl29 el4 rfl (by decide) rfl rfl rfl rdp oneP (by omega) (by omega) trivial rfl (fun vf2 hf2 => ?_)
      refine .nil ?_
      try (conv => enter [2, 2]; simp only [nrm])
      refine HeldK.back Go.Sx.hle ?_
      refine HeldK.first 7 (fuel := 1) (listed' := (lb 9 255)) _ rfl krf krf rfl (Yl.fieldAddr fd32_2 rfl) trivial rfl ?_
      refine HeldK.one 8 (fuel := 0) (listed' := (lb 9 511)) krf rfl krf ?_
      refine AK.storeBox 4 (us := [vf2]) (cs' := [.int .i64 (L : Int), .int .i64 0, vf2, vn2]) rfl sz29 rfl rfl (by rw [IsSl.cells (by assumption)]) rfl oneP (leb rfl) rfl trivial ?_
      refine .nil ?_
      try (conv => enter [2, 2]; simp only [nrm])
      refine HeldK.backN 9 krf rfl krf ?_
      refine .nil ?_
      refine AK.fromQn ?_
      refine .block_normal ?_
      refine AK.then_ (hK10 _ ?_)
      refine AK.region ?_
      refine .mv rfl ?_
      refine .v (.add rfl rfl (by omega)) ?_
      refine .as rfl (.nil ?_)
      refine AK.then_ (hK7 _ _ ((x.1 + 1, y.2, vf2, vn2, x.2.2.2.2 ++ [mv])) ⟨by dsimp only; rw [exI_next hlt]; have := exR_pre f ((exI f L (s1, s2) (0, 0) x.1).getD x.1 (0, 0)) (exI f L (s1, s2) (0, 0) x.1) L; obtain ⟨ys, e⟩ := this; rw [e, List.length_append]; omega, by simp [hg0.2.1], hg1.2, hf2, hn2, by dsimp only; rw [exI_next hlt]; have e9 : (exR f ((exI f L (s1, s2) (0, 0) x.1).getD x.1 (0, 0)) (exI f L (s1, s2) (0, 0) x.1) L).length = (exR f ((exI f L (s1, s2) (0, 0) x.1).getD x.1 (0, 0)) (exI f L (s1, s2) (0, 0) x.1) y.1).length := (by rw [hyL]); omega⟩ (by dsimp only; omega) (slr) (fun w hw => by
        dsimp only
        have e2 : matG (Value.int .i64) 3 (x.2.2.2.2 ++ [mv]) (exN f L (s1, s2) (0, 0) (x.1 + 1)) = matG (Value.int .i64) 3 x.2.2.2.2 (exN f L (s1, s2) (0, 0) x.1) ++ [row mv 3 1 (exW f ((exI f L (s1, s2) (0, 0) x.1).getD x.1 (0, 0)) (exI f L (s1, s2) (0, 0) x.1) L).length ((exW f ((exI f L (s1, s2) (0, 0) x.1).getD x.1 (0, 0)) (exI f L (s1, s2) (0, 0) x.1) L).map (Value.int .i64))] := matG_snoc (by rw [exN_len]; exact hg0.2.1) mv _
        have e3 : mv.cells.toList = [mv] := (by rw [hsr.cells])
        have e4 : L - y.1 = 0 := (by omega)
        rw [e3, e4] at hw
        rw [e2, exI_next hlt, exW_len]
        rw [hyL] at hw
        have e5 : (exG f L (s1, s2) (0, 0) g (x.1 + 1)).map Value.bool = (exG f L (s1, s2) (0, 0) g x.1).map Value.bool ++ [Value.bool (g ((exI f L (s1, s2) (0, 0) x.1).getD x.1 (0, 0)))].flatMap (·.cells.toList) := (by simp [exG, Value.cells])
        rw [e5]
        have h2 := hw.pickLe (L := [_, _, _, _, _, row vf2 4 1 (x.1 + 1) ((exG f L (s1, s2) (0, 0) g x.1).map Value.bool ++ [Value.bool (g ((exI f L (s1, s2) (0, 0) x.1).getD x.1 (0, 0)))].flatMap (·.cells.toList)), _, _, _]) [0, 1, 2, 3, 4, 5, 6, 7, 9] (by decide) pkl
        rw [List.replicate_zero, List.append_nil] at h2
        exact HW.absorb (own := [_, _, _, _, _, _, _, _]) 7 rfl h2))
  ·refine .exit (.then_exit (.then_exit (.block_exit ?_)))
   refine AK.then_ (hK5 _ ?_)
   refine .seq fun _ hK24 => ?_
   try (conv => enter [2, 2]; simp only [nrm])
   refine AK.heldS _ 6 (fun _ hw => hw.pick [0, 1, 2, 4, 5, 6, 7] (by decide) rfl rfl) mixed ?_
   refine HeldK.firstS (fun _ hw => hw.pick [0, 1, 2, 4, 5, 6, 7] (by decide) rfl rfl) 0 (fuel := 5) (listed' := (lb 6 1)) _ rfl krf krf rfl (Yl.loadBoxG ag32 rfl bsp rfl rfl) trivial rfl ?_
   refine HeldK.firstS (fun _ hw => hw.pick [0, 1, 2, 4, 5, 6, 7] (by decide) rfl rfl) 1 (fuel := 4) (listed' := (lb 6 3)) _ rfl krf krf rfl (Yl.fieldAddr fd209_0 rfl) trivial rfl ?_
   refine HeldK.firstS (fun _ hw => hw.pick [0, 1, 2, 4, 5, 6, 7] (by decide) rfl rfl) 2 (fuel := 3) (listed' := (lb 6 7)) _ rfl krf krf rfl (Yl.loadBox on161 rfl bsp rfl) trivial rfl ?_
   refine HeldK.one 3 (fuel := 2) (listed' := (lb 6 15)) krf rfl krf ?_
   refine AK.storeBox 3 (us := [.int .i64 (L : Int), .int .i64 0, x.2.2.1, x.2.2.2.1]) (cs' := [.int .i64 (L : Int), .int .i64 0, x.2.2.1, x.2.2.2.1]) rfl sz32 rfl rfl rfl rfl oneP (leb rfl) rfl trivial ?_
   refine .nil ?_
   try (conv => enter [2, 2]; simp only [nrm])
   refine HeldK.backS (fun _ hw => hw.pick [0, 1, 2, 4, 5, 6, 7] (by decide) rfl rfl) ?_
   refine HeldK.firstS (fun _ hw => hw.pick [0, 1, 2, 4, 5, 6, 7] (by decide) rfl rfl) 4 (fuel := 1) (listed' := (lb 6 31)) _ rfl krf krf rfl (Yl.assign rfl) trivial rfl ?_
   refine HeldK.firstS (fun _ hw => hw.pick [0, 1, 2, 4, 5, 6, 7] (by decide) rfl rfl) 5 (fuel := 0) (listed' := (lb 6 63)) _ rfl krf krf rfl (Yl.assign rfl) trivial rfl ?_
   refine HeldK.done krf ?_
   refine AK.then_ (hK24 _ ?_)
   refine .ret ?_
   refine AK.own' ([box bx11 209 2 [x.2.1, .map (some mb)], row x.2.1 164 2 (exI f L (s1, s2) (0, 0) x.1).length (pcs (exI f L (s1, s2) (0, 0) x.1)), mapA mb (mkv pv (Value.int .i64) (numM (exI f L (s1, s2) (0, 0) x.1))), box bx8 32 4 [.int .i64 (L : Int), .int .i64 0, x.2.2.1, x.2.2.2.1], box bx12 32 4 [.int .i64 (L : Int), .int .i64 0, x.2.2.1, x.2.2.2.1], row x.2.2.1 4 1 x.1 ((exG f L (s1, s2) (0, 0) g x.1).map Value.bool), row x.2.2.2.1 67 1 x.1 x.2.2.2.2, bigA (matG (Value.int .i64) 3 x.2.2.2.2 (exN f L (s1, s2) (0, 0) x.1))]) (fun w hw => hw) ?_
   refine AK.retG [.cell 8 32, .tmp 9, .tmp 10] rfl (.cons (.cell ag32 rfl bsp rfl rfl) (.cons (.tmp rfl) (.cons (.tmp rfl) (.nil)))) (fun w hw => ⟨_, _, ?_, rfl, Ret.of (hw.pick [5, 6, 7] (by decide) rfl rfl)⟩)
   refine ⟨⟨(L : Int), 0, (exG f L (s1, s2) (0, 0) g x.1), (exN f L (s1, s2) (0, 0) x.1)⟩, 0, x.2.1, x.2.2.1, x.2.2.2.1, x.2.2.2.2, .inr ⟨rfl, exp_ok (by omega) (by omega) hL⟩, ?_, hg0.2.2.1, hg0.2.2.2.1, hg0.2.2.2.2.1, rfl, ?_⟩
   ·rw [show (Dfa.nx ⟨(L : Int), 0, (exG f L (s1, s2) (0, 0) g x.1), (exN f L (s1, s2) (0, 0) x.1)⟩).length = x.1 from exN_len _ _ _ _ _]; exact hg0.2.1
   ·unfold dfaO
    rw [exG_len, exN_len]; rfl

end Go.Proofs.YtbibnpdnmmgacaaGreatDoor

namespace Go.Proofs.YtbibnpdnmmgacaaGreatDoor
open Go.Sx Go.RowKit
theorem s_prod1 (w : World) (p1 p2 : Int) (x : Nat) (x1 x2 : Nat) (a b : Dfa) (aF aN bF bN : Value) (ha : VD a) (hb : VD b) (hL : a.L = b.L) (hx1 : BxA w x1 [.int .i64 a.L, .int .i64 a.s, aF, aN]) (hx2 : BxA w x2 [.int .i64 b.L, .int .i64 b.s, bF, bN]) (haF0 : RdL (fun _ => False) Value.bool w aF a.fin) (haN : RdLL (fun _ => False) (Value.int .i64) w aN a.nx) (hbF0 : RdL (fun _ => False) Value.bool w bF b.fin) (hbN : RdLL (fun _ => False) (Value.int .i64) w bN b.nx) (hp : (0 ≤ p1 ∧ p1 < a.fin.length) ∧ (0 ≤ p2 ∧ p2 < b.fin.length)) (hx : x < a.L.toNat) : CallS Tryz.prog 121 [.agg #[.int .i64 p1, .int .i64 p2], .int .i64 (x : Int), .pointer (some ⟨x1, 0, none⟩), .pointer (some ⟨x2, 0, none⟩)] w (fun r o => r = pv (stepP a b (p1, p2) x) ∧ o = []) := by
 obtain ⟨ra, hra, haNr, haNi⟩ := haN
 obtain ⟨rb, hrb, hbNr, hbNi⟩ := hbN
 have haF := haF0
 have hbF := hbF0
 unfold RdL at haF hbF
 have n1 := ha.nx
 have n2 := hb.nx
 have r1 := ha.row p1.toNat (by omega)
 have r2 := hb.row p2.toNat (by omega)
 refine spec_of Tryz.func121 rfl (leb rfl) ?_
 refine .sr fun _ hK1 => ?_
 refine AK.box_ (E := 164) (cs := [.int .i64 p1, .int .i64 p2]) rfl rfl rfl trivial rfl (fun bx4 => ?_)
 refine AK.alloc el164 rfl rfl trivial rfl (fun bx6 => ?_)
 refine .nt hK1 ?_
 refine .seq fun _ hK2 => ?_
 try (conv => enter [2, 2]; simp only [nrm])
 refine AK.held 19 mixed ?_
 refine HeldK.first 0 (fuel := 19) (listed' := (lb 20 1)) _ rfl krf krf rfl (Yl.fieldAddr fd32_3 rfl) trivial rfl ?_
 refine HeldK.first 1 (fuel := 18) (listed' := (lb 20 3)) _ rfl krf krf rfl (Yl.loadBox on30 rfl bsp rfl) trivial rfl ?_
 refine HeldK.first 2 (fuel := 17) (listed' := (lb 20 7)) _ rfl krf krf rfl (Yl.idxArr 0 ar164 rfl rfl (by decide)) trivial rfl ?_
 refine HeldK.first 3 (fuel := 16) (listed' := (lb 20 15)) _ rfl krf krf rfl (Yl.loadBox on3 rfl bsp rfl) trivial rfl ?_
 first | refine HeldK.first 4 (fuel := 15) (listed' := (lb 20 31)) _ rfl krf krf rfl (.iN sl30 rfl rfl (hr := (by first | exact rdp | exact .arg haNr | exact .arg hbNr | exact .arg haF | exact .arg hbF | exact .arg (haNi _ (by omega)) | exact .arg (hbNi _ (by omega))))) trivial rfl ?_ | refine HeldK.first 4 (fuel := 15) (listed' := (lb 20 31)) _ rfl krf krf rfl (.iK sl30 rfl rfl (hr := (by first | exact rdp | exact .arg haNr | exact .arg hbNr | exact .arg haF | exact .arg hbF | exact .arg (haNi _ (by omega)) | exact .arg (hbNi _ (by omega))))) trivial rfl ?_
 refine HeldK.first 5 (fuel := 14) (listed' := (lb 20 63)) _ rfl krf krf rfl (Yl.loadV on67 rfl (by first | exact rdp | exact .arg haNr | exact .arg hbNr | exact .arg haF | exact .arg hbF | exact .arg (haNi _ (by omega)) | exact .arg (hbNi _ (by omega))) (by omega)) trivial rfl ?_
 refine HeldK.first 6 (fuel := 13) (listed' := (lb 20 127)) _ rfl krf krf rfl (Yl.move rfl) trivial rfl ?_
 first | refine HeldK.first 7 (fuel := 12) (listed' := (lb 20 255)) _ rfl krf krf rfl (.iN sl67 rfl rfl (hr := (by first | exact rdp | exact .arg haNr | exact .arg hbNr | exact .arg haF | exact .arg hbF | exact .arg (haNi _ (by omega)) | exact .arg (hbNi _ (by omega))))) trivial rfl ?_ | refine HeldK.first 7 (fuel := 12) (listed' := (lb 20 255)) _ rfl krf krf rfl (.iK sl67 rfl rfl (hr := (by first | exact rdp | exact .arg haNr | exact .arg hbNr | exact .arg haF | exact .arg hbF | exact .arg (haNi _ (by omega)) | exact .arg (hbNi _ (by omega))))) trivial rfl ?_
 refine HeldK.first 8 (fuel := 11) (listed' := (lb 20 511)) _ rfl krf krf rfl (Yl.loadI on3 rfl (by first | exact rdp | exact .arg haNr | exact .arg hbNr | exact .arg haF | exact .arg hbF | exact .arg (haNi _ (by omega)) | exact .arg (hbNi _ (by omega))) (by omega)) trivial rfl ?_
 refine HeldK.first 9 (fuel := 10) (listed' := (lb 20 1023)) _ rfl krf krf rfl (Yl.fieldAddr fd32_3 rfl) trivial rfl ?_
 refine HeldK.first 10 (fuel := 9) (listed' := (lb 20 2047)) _ rfl krf krf rfl (Yl.loadBox on30 rfl bsp rfl) trivial rfl ?_
 refine HeldK.first 11 (fuel := 8) (listed' := (lb 20 4095)) _ rfl krf krf rfl (Yl.idxArr 1 ar164 rfl rfl (by decide)) trivial rfl ?_
 refine HeldK.first 12 (fuel := 7) (listed' := (lb 20 8191)) _ rfl krf krf rfl (Yl.loadBox on3 rfl bsp rfl) trivial rfl ?_
 first | refine HeldK.first 13 (fuel := 6) (listed' := (lb 20 16383)) _ rfl krf krf rfl (.iN sl30 rfl rfl (hr := (by first | exact rdp | exact .arg haNr | exact .arg hbNr | exact .arg haF | exact .arg hbF | exact .arg (haNi _ (by omega)) | exact .arg (hbNi _ (by omega))))) trivial rfl ?_ | refine HeldK.first 13 (fuel := 6) (listed' := (lb 20 16383)) _ rfl krf krf rfl (.iK sl30 rfl rfl (hr := (by first | exact rdp | exact .arg haNr | exact .arg hbNr | exact .arg haF | exact .arg hbF | exact .arg (haNi _ (by omega)) | exact .arg (hbNi _ (by omega))))) trivial rfl ?_
 refine HeldK.first 14 (fuel := 5) (listed' := (lb 20 32767)) _ rfl krf krf rfl (Yl.loadV on67 rfl (by first | exact rdp | exact .arg haNr | exact .arg hbNr | exact .arg haF | exact .arg hbF | exact .arg (haNi _ (by omega)) | exact .arg (hbNi _ (by omega))) (by omega)) trivial rfl ?_
 refine HeldK.first 15 (fuel := 4) (listed' := (lb 20 65535)) _ rfl krf krf rfl (Yl.move rfl) trivial rfl ?_
 first | refine HeldK.first 16 (fuel := 3) (listed' := (lb 20 131071)) _ rfl krf krf rfl (.iN sl67 rfl rfl (hr := (by first | exact rdp | exact .arg haNr | exact .arg hbNr | exact .arg haF | exact .arg hbF | exact .arg (haNi _ (by omega)) | exact .arg (hbNi _ (by omega))))) trivial rfl ?_ | refine HeldK.first 16 (fuel := 3) (listed' := (lb 20 131071)) _ rfl krf krf rfl (.iK sl67 rfl rfl (hr := (by first | exact rdp | exact .arg haNr | exact .arg hbNr | exact .arg haF | exact .arg hbF | exact .arg (haNi _ (by omega)) | exact .arg (hbNi _ (by omega))))) trivial rfl ?_
 refine HeldK.first 17 (fuel := 2) (listed' := (lb 20 262143)) _ rfl krf krf rfl (Yl.loadI on3 rfl (by first | exact rdp | exact .arg haNr | exact .arg hbNr | exact .arg haF | exact .arg hbF | exact .arg (haNi _ (by omega)) | exact .arg (hbNi _ (by omega))) (by omega)) trivial rfl ?_
 refine HeldK.first 18 (fuel := 1) (listed' := (lb 20 524287)) _ rfl krf krf rfl (Yl.build (parts := [(0, .tmp 15), (1, .tmp 24)]) (cs := #[.int .i64 (stepQ a p1 x), .int .i64 (stepQ b p2 x)]) rfl (by kernel_rfl)) trivial rfl ?_
 refine HeldK.one 19 (fuel := 0) (listed' := (lb 20 1048575)) krf rfl krf ?_
 refine AK.storeBox 1 (us := [.int .i64 (stepQ a p1 x), .int .i64 (stepQ b p2 x)]) (cs' := [.int .i64 (stepQ a p1 x), .int .i64 (stepQ b p2 x)]) rfl sz164 rfl rfl rfl rfl oneP (leb rfl) rfl trivial ?_
 refine .nil ?_
 try (conv => enter [2, 2]; simp only [nrm])
 refine HeldK.backN 20 krf rfl krf ?_
 refine .nil ?_
 refine AK.fromQn ?_
 refine AK.then_ (hK2 _ ?_)
 refine .ret ?_
 refine AK.retG [.cell 6 164] rfl (.cons (.cell ag164 rfl bsp rfl rfl) (.nil)) (fun w hw => ⟨_, _, ?_, rfl, Ret.of (hw.pick [] (by decide) rfl rfl)⟩)
 exact ⟨rfl, rfl⟩

theorem s_prod2 (w : World) (p1 p2 op : Int) (x3 : Nat) (ho : 0 ≤ op ∧ op ≤ 15) (hx3 : BxA w x3 [.int .i64 op]) (x1 x2 : Nat) (a b : Dfa) (aF aN bF bN : Value) (ha : VD a) (hb : VD b) (hL : a.L = b.L) (hx1 : BxA w x1 [.int .i64 a.L, .int .i64 a.s, aF, aN]) (hx2 : BxA w x2 [.int .i64 b.L, .int .i64 b.s, bF, bN]) (haF0 : RdL (fun _ => False) Value.bool w aF a.fin) (haN : RdLL (fun _ => False) (Value.int .i64) w aN a.nx) (hbF0 : RdL (fun _ => False) Value.bool w bF b.fin) (hbN : RdLL (fun _ => False) (Value.int .i64) w bN b.nx) (hp : (0 ≤ p1 ∧ p1 < a.fin.length) ∧ (0 ≤ p2 ∧ p2 < b.fin.length)) : CallS Tryz.prog 122 [.agg #[.int .i64 p1, .int .i64 p2], .pointer (some ⟨x1, 0, none⟩), .pointer (some ⟨x2, 0, none⟩), .pointer (some ⟨x3, 0, none⟩)] w (fun r o => r = .bool (finP a b op (p1, p2)) ∧ o = []) := by
 obtain ⟨ra, hra, haNr, haNi⟩ := haN
 obtain ⟨rb, hrb, hbNr, hbNi⟩ := hbN
 have haF := haF0
 have hbF := hbF0
 unfold RdL at haF hbF
 have n1 := ha.nx
 have n2 := hb.nx
 refine spec_of Tryz.func122 rfl (leb rfl) ?_
 refine .sr fun _ hK1 => ?_
 refine AK.box_ (E := 164) (cs := [.int .i64 p1, .int .i64 p2]) rfl rfl rfl trivial rfl (fun bx4 => ?_)
 refine .as rfl (.nt hK1 ?_)
 refine .sr fun _ hK2 => ?_
 refine .as rfl (.nt hK2 ?_)
 refine .seq fun _ hK3 => ?_
 refine .sr fun _ hK4 => ?_
 refine .v (.fieldAddr fd32_2 rfl) (.v (.loadBox on29 rfl bsp rfl) ?_)
 refine .v (.idxArr 0 ar164 rfl rfl (by decide)) ?_
 refine .v (.loadBox on3 rfl bsp rfl) ?_
 first | refine .v (.iN sl29 rfl rfl (hr := (by first | exact rdp | exact .arg haNr | exact .arg hbNr | exact .arg haF | exact .arg hbF | exact .arg (haNi _ (by omega)) | exact .arg (hbNi _ (by omega))))) ?_ | refine .v (.iK sl29 rfl rfl (hr := (by first | exact rdp | exact .arg haNr | exact .arg hbNr | exact .arg haF | exact .arg hbF | exact .arg (haNi _ (by omega)) | exact .arg (hbNi _ (by omega))))) ?_
 refine .v (.loadB on4 rfl (by first | exact rdp | exact .arg haNr | exact .arg hbNr | exact .arg haF | exact .arg hbF | exact .arg (haNi _ (by omega)) | exact .arg (hbNi _ (by omega))) (by omega)) ?_
 refine .nt hK4 ?_
 refine AK.cond rfl (fun hc0 => ?_) (fun hc0 => ?_)
 ·try simp only [bs] at hc0
  refine AK.region ?_
  refine .mv rfl ?_
  refine .v (.add rfl rfl (by omega)) ?_
  refine .as rfl (.nt hK3 ?_)
  refine .seq fun _ hK5 => ?_
  refine .sr fun _ hK6 => ?_
  refine .v (.fieldAddr fd32_2 rfl) (.v (.loadBox on29 rfl bsp rfl) ?_)
  refine .v (.idxArr 1 ar164 rfl rfl (by decide)) ?_
  refine .v (.loadBox on3 rfl bsp rfl) ?_
  first | refine .v (.iN sl29 rfl rfl (hr := (by first | exact rdp | exact .arg haNr | exact .arg hbNr | exact .arg haF | exact .arg hbF | exact .arg (haNi _ (by omega)) | exact .arg (hbNi _ (by omega))))) ?_ | refine .v (.iK sl29 rfl rfl (hr := (by first | exact rdp | exact .arg haNr | exact .arg hbNr | exact .arg haF | exact .arg hbF | exact .arg (haNi _ (by omega)) | exact .arg (hbNi _ (by omega))))) ?_
  refine .v (.loadB on4 rfl (by first | exact rdp | exact .arg haNr | exact .arg hbNr | exact .arg haF | exact .arg hbF | exact .arg (haNi _ (by omega)) | exact .arg (hbNi _ (by omega))) (by omega)) ?_
  refine .nt hK6 ?_
  refine AK.cond rfl (fun hc1 => ?_) (fun hc1 => ?_)
  ·try simp only [bs] at hc1
   refine AK.region ?_
   refine .mv rfl ?_
   refine .v (.add rfl rfl (by omega)) ?_
   refine .as rfl (.nt hK5 ?_)
   refine .sr fun _ hK7 => ?_
   refine .v (.loadBox on3 rfl bsp rfl) (.mv rfl ?_)
   refine .v (.shr rfl rfl (by omega) (by omega)) ?_
   refine .v (.and1 rfl rfl (div_bd ho _)) (.v (.eql rfl rfl) (.as rfl (.nt hK7 (.ret ?_))))
   refine AK.ret1 rfl rfl (fun w hw => ⟨_, _, ?_, rfl, Ret.of (hw.pick [] (by decide) rfl rfl)⟩)
   refine ⟨congrArg Value.bool ?_, rfl⟩
   have e1 : finQ a p1 = a.fin.getD p1.toNat false := rfl
   have e2 : finQ b p2 = b.fin.getD p2.toNat false := rfl
   unfold finP byB; dsimp only; rw [e1, e2, hc0, hc1]; rfl
  ·try simp only [bs] at hc1
   refine .skip ?_
   refine AK.then_ (hK5 _ ?_)
   refine .sr fun _ hK8 => ?_
   refine .v (.loadBox on3 rfl bsp rfl) (.mv rfl ?_)
   refine .v (.shr rfl rfl (by omega) (by omega)) ?_
   refine .v (.and1 rfl rfl (div_bd ho _)) (.v (.eql rfl rfl) (.as rfl (.nt hK8 (.ret ?_))))
   refine AK.ret1 rfl rfl (fun w hw => ⟨_, _, ?_, rfl, Ret.of (hw.pick [] (by decide) rfl rfl)⟩)
   refine ⟨congrArg Value.bool ?_, rfl⟩
   have e1 : finQ a p1 = a.fin.getD p1.toNat false := rfl
   have e2 : finQ b p2 = b.fin.getD p2.toNat false := rfl
   unfold finP byB; dsimp only; rw [e1, e2, hc0, hc1]; rfl
 ·try simp only [bs] at hc0
  refine .skip ?_
  refine AK.then_ (hK3 _ ?_)
  refine .seq fun _ hK9 => ?_
  refine .sr fun _ hK10 => ?_
  refine .v (.fieldAddr fd32_2 rfl) (.v (.loadBox on29 rfl bsp rfl) ?_)
  refine .v (.idxArr 1 ar164 rfl rfl (by decide)) ?_
  refine .v (.loadBox on3 rfl bsp rfl) ?_
  first | refine .v (.iN sl29 rfl rfl (hr := (by first | exact rdp | exact .arg haNr | exact .arg hbNr | exact .arg haF | exact .arg hbF | exact .arg (haNi _ (by omega)) | exact .arg (hbNi _ (by omega))))) ?_ | refine .v (.iK sl29 rfl rfl (hr := (by first | exact rdp | exact .arg haNr | exact .arg hbNr | exact .arg haF | exact .arg hbF | exact .arg (haNi _ (by omega)) | exact .arg (hbNi _ (by omega))))) ?_
  refine .v (.loadB on4 rfl (by first | exact rdp | exact .arg haNr | exact .arg hbNr | exact .arg haF | exact .arg hbF | exact .arg (haNi _ (by omega)) | exact .arg (hbNi _ (by omega))) (by omega)) ?_
  refine .nt hK10 ?_
  refine AK.cond rfl (fun hc1 => ?_) (fun hc1 => ?_)
  ·try simp only [bs] at hc1
   refine AK.region ?_
   refine .mv rfl ?_
   refine .v (.add rfl rfl (by omega)) ?_
   refine .as rfl (.nt hK9 ?_)
   refine .sr fun _ hK11 => ?_
   refine .v (.loadBox on3 rfl bsp rfl) (.mv rfl ?_)
   refine .v (.shr rfl rfl (by omega) (by omega)) ?_
   refine .v (.and1 rfl rfl (div_bd ho _)) (.v (.eql rfl rfl) (.as rfl (.nt hK11 (.ret ?_))))
   refine AK.ret1 rfl rfl (fun w hw => ⟨_, _, ?_, rfl, Ret.of (hw.pick [] (by decide) rfl rfl)⟩)
   refine ⟨congrArg Value.bool ?_, rfl⟩
   have e1 : finQ a p1 = a.fin.getD p1.toNat false := rfl
   have e2 : finQ b p2 = b.fin.getD p2.toNat false := rfl
   unfold finP byB; dsimp only; rw [e1, e2, hc0, hc1]; rfl
  ·try simp only [bs] at hc1
   refine .skip ?_
   refine AK.then_ (hK9 _ ?_)
   refine .sr fun _ hK12 => ?_
   refine .v (.loadBox on3 rfl bsp rfl) (.mv rfl ?_)
   refine .v (.shr rfl rfl (by omega) (by omega)) ?_
   refine .v (.and1 rfl rfl (div_bd ho _)) (.v (.eql rfl rfl) (.as rfl (.nt hK12 (.ret ?_))))
   refine AK.ret1 rfl rfl (fun w hw => ⟨_, _, ?_, rfl, Ret.of (hw.pick [] (by decide) rfl rfl)⟩)
   refine ⟨congrArg Value.bool ?_, rfl⟩
   have e1 : finQ a p1 = a.fin.getD p1.toNat false := rfl
   have e2 : finQ b p2 = b.fin.getD p2.toNat false := rfl
   unfold finP byB; dsimp only; rw [e1, e2, hc0, hc1]; rfl

set_option maxHeartbeats 600000 in
theorem s_productL (w : World) (u v : Value) (a b : Dfa) (hu : RdD (fun _ => False) w u a) (hv : RdD (fun _ => False) w v b) (op : Int) (ha : VD a) (hb : VD b) (hL : a.L = b.L) (ho : 0 ≤ op ∧ op ≤ 15) : CallS Tryz.prog 73 [u, v, .int .i64 op] w (fun r o => ∃ (d : Dfa) (e : Int) (vF vN : Value) (rs : List Value), ((e = 3 ∧ d = nilD) ∨ (e = 0 ∧ ExpD a.L a.L.toNat (stepP a b) (a.s, b.s) (finP a b op) d)) ∧ rs.length = d.nx.length ∧ IsSl vF ∧ IsSl vN ∧ r = .tuple #[.agg #[.int .i64 d.L, .int .i64 d.s, vF, vN], .int .i64 e] ∧ o = dfaO 4 3 67 vF vN rs d) := by
 have hu0 := hu
 have hv0 := hv
 obtain ⟨aF, aN, rfl, haF, haN⟩ := hu
 obtain ⟨bF, bN, rfl, hbF, hbN⟩ := hv
 have haF0 := haF
 have hbF0 := hbF
 have haN0 := haN
 have hbN0 := hbN
 obtain ⟨ra, hra, haNr, haNi⟩ := haN
 obtain ⟨rb, hrb, hbNr, hbNi⟩ := hbN
 unfold RdL at haF hbF
 have m1 := haF.le
 have m2 := hbF.le
 have hea := (errV_iff a).2 ha
 have heb := (errV_iff b).2 hb
 have hvL := ha.L
 have hLL : ((a.L.toNat : Nat) : Int) = a.L := by omega
 refine spec_of Tryz.func73 rfl (leb rfl) ?_
 refine .sr fun _ hK1 => ?_
 refine AK.box_ (E := 32) (cs := [.int .i64 a.L, .int .i64 a.s, aF, aN]) rfl rfl rfl trivial rfl (fun bx3 => ?_)
 refine AK.box_ (E := 32) (cs := [.int .i64 b.L, .int .i64 b.s, bF, bN]) rfl rfl rfl trivial rfl (fun bx4 => ?_)
 refine AK.box_ (E := 3) (cs := [.int .i64 op]) rfl rfl rfl trivial rfl (fun bx5 => ?_)
 refine AK.alloc el32 rfl rfl trivial rfl (fun bx6 => ?_)
 refine .as rfl (.nt hK1 ?_)
 refine .seq fun _ hK2 => ?_
 refine .sr fun _ hK3 => ?_
 refine .v (.loadBoxG ag32 rfl bsp rfl rfl) ?_
 refine AK.call co23 rfl (fun w hw => s_validate w _ a (hu0.at hw)) trivial rfl ?_
 rintro r o ⟨rfl, rfl⟩
 refine .as rfl (.nt hK3 ?_)
 refine .sr fun _ hK4 => ?_
 refine .mv rfl (.v (.neq rfl rfl) (.nt hK4 ?_))
 refine AK.cond_f rfl (decide_eq_false (by omega)) ?_
 refine .skip ?_
 refine AK.then_ (hK2 _ ?_)
 refine .seq fun _ hK5 => ?_
 refine .sr fun _ hK6 => ?_
 refine .v (.loadBoxG ag32 rfl bsp rfl rfl) ?_
 refine AK.call co23 rfl (fun w hw => s_validate w _ b (hv0.at hw)) trivial rfl ?_
 rintro r o ⟨rfl, rfl⟩
 refine .as rfl (.nt hK6 ?_)
 refine .sr fun _ hK7 => ?_
 refine .mv rfl (.v (.neq rfl rfl) (.nt hK7 ?_))
 refine AK.cond_f rfl (decide_eq_false (by omega)) ?_
 refine .skip ?_
 refine AK.then_ (hK5 _ ?_)
 refine .seq fun _ hK8 => ?_
 refine .sr fun _ hK9 => ?_
 refine .v (.fieldAddr fd32_0 rfl) (.v (.loadBox on3 rfl bsp rfl) (.v (.fieldAddr fd32_0 rfl) (.v (.loadBox on3 rfl bsp rfl) (.v (.neq rfl rfl) (.mv rfl ?_)))))
 refine AK.knownF (g := 30) rfl (decide_eq_false (by omega)) (fun hg_7_5 => ?_)
 refine AK.val _ (Yl.loadBox on3 rfl bsp rfl) ⟨_, rfl, gB hg_7_5⟩ rfl ?_
 refine AK.val _ (Yl.lss rfl rfl) ⟨_, rfl, gB hg_7_5⟩ rfl ?_
 refine .v (.pickF rfl (hg_7_5) rfl) (.mv rfl ?_)
 refine AK.knownF (g := 34) rfl (decide_eq_false (by omega)) (fun hg_7_9 => ?_)
 refine AK.val _ (Yl.loadBox on3 rfl bsp rfl) ⟨_, rfl, gB hg_7_9⟩ rfl ?_
 refine AK.val _ (Yl.gtr rfl rfl) ⟨_, rfl, gB hg_7_9⟩ rfl ?_
 refine .v (.pickF rfl (hg_7_9) rfl) (.nt hK9 ?_)
 refine AK.cond_f rfl (decide_eq_false (by omega)) ?_
 refine .skip ?_
 refine AK.then_ (hK8 _ ?_)
 refine .sr fun _ hK10 => ?_
 refine .v (.fieldAddr fd32_0 rfl) (.v (.loadBox on3 rfl bsp rfl) (.v (.fieldAddr fd32_1 rfl) (.v (.loadBox on3 rfl bsp rfl) (.v (.fieldAddr fd32_1 rfl) (.v (.loadBox on3 rfl bsp rfl) ?_)))))
 refine .v (.build (parts := [(0, .tmp 43), (1, .tmp 45)]) (cs := #[.int .i64 a.s, .int .i64 b.s]) rfl (by kernel_rfl)) ?_
 refine .v (.makeFunc (first := []) (captured := [.tmp 3, .tmp 4]) rfl rfl) (.v (.makeFunc (first := []) (captured := [.tmp 3, .tmp 4, .tmp 5]) rfl rfl) ?_)
 refine AK.call co120 rfl (fun w hw => (by have h := s_exploreLP w a.L.toNat a.s b.s (stepP a b) (finP a b op) (fun p => (0 ≤ p.1 ∧ p.1 < a.fin.length) ∧ (0 ≤ p.2 ∧ p.2 < b.fin.length)) 121 122 [.pointer (some ⟨bx3, 0, none⟩), .pointer (some ⟨bx4, 0, none⟩)] [.pointer (some ⟨bx3, 0, none⟩), .pointer (some ⟨bx4, 0, none⟩), .pointer (some ⟨bx5, 0, none⟩)] (by omega) (mem_univ2.1 (start_univ2 ha hb)) (fun q hq x hx => mem_univ2.1 (step_univ2 ha hb hL q (mem_univ2.2 hq) x hx)) co121 co122 (fun w' hfr q hq x hx => s_prod1 w' q.1 q.2 x bx3 bx4 a b aF aN bF bN ha hb hL ((BxA.own 0 hw rfl).fr hfr) ((BxA.own 1 hw rfl).fr hfr) ((haF0.at hw).fr hfr) ((haN0.at hw).fr hfr) ((hbF0.at hw).fr hfr) ((hbN0.at hw).fr hfr) hq hx) (fun w' hfr q hq => s_prod2 w' q.1 q.2 op bx5 ho ((BxA.own 2 hw rfl).fr hfr) bx3 bx4 a b aF aN bF bN ha hb hL ((BxA.own 0 hw rfl).fr hfr) ((BxA.own 1 hw rfl).fr hfr) ((haF0.at hw).fr hfr) ((haN0.at hw).fr hfr) ((hbF0.at hw).fr hfr) ((hbN0.at hw).fr hfr) hq); rw [hLL] at h; exact h)) trivial rfl ?_
 rintro r o ⟨d, e, vL, vF2, vN2, rs2, hE2, hrs, sL, sF2, sN2, rfl, rfl⟩
 refine .mv rfl (.v (.extract rfl rfl) (.v (.extract rfl rfl) (.v (.extract rfl rfl) ?_)))
 refine AK.alloc el32 rfl rfl trivial rfl (fun bx10 => ?_)
 refine AK.storeBox 7 (us := [.int .i64 d.L, .int .i64 d.s, vF2, vN2]) (cs' := [.int .i64 d.L, .int .i64 d.s, vF2, vN2]) rfl sz32 rfl rfl rfl rfl oneP (leb rfl) rfl trivial ?_
 refine .as rfl (.as rfl (.nt hK10 ?_))
 refine .sr fun _ hK11 => ?_
 refine .v (.loadBoxG ag32 rfl bsp rfl rfl) (.mv rfl ?_)
 refine AK.storeBox 3 (us := [.int .i64 d.L, .int .i64 d.s, vF2, vN2]) (cs' := [.int .i64 d.L, .int .i64 d.s, vF2, vN2]) rfl sz32 rfl rfl rfl rfl oneP (leb rfl) rfl trivial ?_
 refine .as rfl (.nt hK11 (.ret ?_))
 refine AK.retG [.cell 6 32, .tmp 7] rfl (.cons (.cell ag32 rfl bsp rfl rfl) (.cons (.tmp rfl) (.nil))) (fun w hw => ⟨_, _, ?_, rfl, Ret.of (hw.pick [4, 5, 6] (by decide) rfl rfl)⟩)
 exact ⟨d, e, vF2, vN2, rs2, hE2, hrs, sF2, sN2, rfl, rfl⟩

end Go.Proofs.YtbibnpdnmmgacaaGreatDoor
