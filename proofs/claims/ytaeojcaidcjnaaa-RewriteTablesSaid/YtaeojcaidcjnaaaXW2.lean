import Derived.Test.YtaeojcaidcjnaaaXTy
import Derived.Test.YtaeojcaidcjnaaaXRR
set_option linter.unusedVariables false
set_option linter.unusedSimpArgs false
namespace Go.Proofs.Ytaeojcaidcjnaaa
open Go.Sx Go.RowKit
set_option maxHeartbeats 4000000 in
set_option maxRecDepth 100000 in
theorem s_complete (w : World) (F : Nat → Prop) (bf : Nat) (vn vf : Value) (ps N : List Wrd) (f0 d0 : List Int) (T : Trie ps ps.length N f0 d0) (hN : N.length ≤ 4200000) (hA : (bigA [box bf 72 2 [vn, vf], row vn 73 6 N.length (f0.map (Value.int .i32)), row vf 21 1 N.length (d0.map (Value.int .i32))]).holds w F) : CallM Try.prog 57 [.pointer (some ⟨bf, 0, none⟩)] w F (fun r A o => ∃ fl fd, FinOK ps N fl fd ∧ A = bigA [box bf 72 2 [vn, vf], row vn 73 6 N.length (fl.map (Value.int .i32)), row vf 21 1 N.length (fd.map (Value.int .i32))] ∧ r = .tuple #[] ∧ o = []) := by
 refine specM_of' Try.func57 rfl (Nat.le_of_ble_eq_true rfl) hA ?_
 refine .sr fun _ hK1 => ?_
 refine .mv rfl ?_
 refine .v (.nilCheck rfl) ?_
 refine .v (.fieldAddr fd72_0 rfl) ?_
 refine .v (.loadBox on69 rfl bsp rfl) ?_
 refine .v (.lenR sl69 rfl rdp) ?_
 refine AK.make1 (n := N.length) sl70 el21 rfl rfl rfl (by omega) (by omega) trivial rfl (fun mv => ?_)
 refine .as rfl (.nt hK1 ?_)
 refine .sr fun _ hK2 => ?_
 refine AK.lit (xs := [.const (.int .i32 0)]) sl70 el21 rfl rfl rfl (by intro a ha; simp at ha; subst ha; rfl) (by decide) (by decide) trivial rfl (fun lq => ?_)
 refine AK.shape 4 rfl (fun slq => ?_)
 refine .as rfl (.nt hK2 ?_)
 refine .sr fun _ hK3 => ?_
 refine .as rfl (.nt hK3 (.block ?_))
 refine AK.loopK (X := Nat × Value × List Nat × List Int × List Int × List Int) [(0, _), (2, _)] (fun x => [(3, x.2.1), (4, .int .i64 (x.1 : Int))]) (fun x => [box bf 72 2 [vn, vf], row vn 73 6 N.length (x.2.2.2.2.1.map (Value.int .i32)), row vf 21 1 N.length (x.2.2.2.2.2.map (Value.int .i32)), row mv 21 1 N.length (x.2.2.2.1.map (Value.int .i32)), row x.2.1 21 1 x.2.2.1.length ((qz x.2.2.1).map (Value.int .i32))]) (fun x => Cmp ps N f0 d0 x.1 0 x.1 x.2.2.1 x.2.2.2.1 x.2.2.2.2.1 x.2.2.2.2.2 ∧ IsSl x.2.1) (fun x => N.length - x.1) ((0, lq, [0], List.replicate N.length 0, f0, d0)) slr ?_ ?_ ?_ ?_
 ·exact ⟨cmp0 T, slq⟩
 ·exact slr
 ·exact fun w hw => by have e : (List.replicate N.length (0 : Int)).map (Value.int .i32) = List.replicate N.length (Value.int .i32 0) := (by simp); dsimp only; rw [e]; exact hw
 ·intro x hg0 _ hK4
  obtain ⟨hC, sq⟩ := hg0
  have hqle := hC.qle T
  refine .seq fun _ hK5 => ?_
  refine .sr fun _ hK6 => ?_
  refine .mv rfl (.mv rfl ?_)
  refine .v (.lenR sl70 rfl rdp) ?_
  refine .v (.lss rfl rfl) ?_
  refine .nt hK6 ?_
  refine AK.condD rfl (fun hc0 => ?_) (fun hc0 => ?_)
  ·have hi : x.1 < x.2.2.1.length := by omega
   have hS := hC.lt x.1 hi
   obtain ⟨r, hr, hrN⟩ := hC.shB T hi
   have hfd0 := hC.fdl
   have hCf := hC.found T hi
   rw [hr] at hCf
   simp only [Int.toNat_natCast] at hCf
   refine .skip ?_
   refine AK.then_ (hK5 _ ?_)
   refine .seq fun _ hK7 => ?_
   refine .block ?_
   refine .sr fun _ hK8 => ?_
   refine .mv rfl (.mv rfl ?_)
   first | refine .v (.iN sl70 rfl rfl) ?_ | refine .v (.iK sl70 rfl rfl) ?_
   refine AK.val (.int .i32 (((x.2.2.1.getD x.1 0) : Nat) : Int)) (Yl.valE (Yl.loadI on21 rfl rdp (by rw [qz_len]; omega)) (congrArg (Value.int .i32) (qz_get x.2.2.1 x.1))) trivial rfl ?_
   refine .as rfl (.nt hK8 ?_)
   refine .seq fun _ hK9 => ?_
   refine .seq fun _ hK10 => ?_
   refine AK.quiet mixed krf ?_
   refine .mv rfl ?_
   refine .v (.nilCheck rfl) ?_
   refine .v (.fieldAddr fd72_1 rfl) ?_
   refine .v (.loadBox on70 rfl bsp rfl) ?_
   refine .mv rfl (.mv rfl ?_)
   first | refine .v (.iN sl70 rfl rfl) ?_ | refine .v (.iK sl70 rfl rfl) ?_
   refine QK.val (.int .i32 (r : Int)) (Yl.valE (Yl.loadI on21 rfl rdp (by rw [hC.shl]; omega)) (congrArg (Value.int .i32) hr)) trivial rfl ?_
   first | refine .v (.iN sl70 rfl rfl) ?_ | refine .v (.iK sl70 rfl rfl) ?_
   refine QK.val (.int .i32 (x.2.2.2.2.2.getD r 0)) (Yl.loadI on21 rfl rdp (by rw [hC.fdl]; omega)) trivial rfl ?_
   refine .as rfl ?_
   refine QK.nil (QK.fin ?_)
   refine AK.then_ (hK10 _ ?_)
   refine .sr fun _ hK11 => ?_
   refine .mv rfl ?_
   refine .v (.geq rfl rfl) ?_
   refine .mv rfl ?_
   refine AK.splitB (g := 39) rfl (fun hg_7_2 => ?_) (fun hg_7_2 => ?_)
   ·have hg_7_2' := hg_7_2
    try simp only [bs] at hg_7_2'
    refine AK.val _ (Yl.move rfl) ⟨_, rfl, congrArg (fun b => some (Value.bool b)) hg_7_2⟩ rfl ?_
    refine AK.val _ (Yl.nilCheck rfl) ⟨_, rfl, congrArg (fun b => some (Value.bool b)) hg_7_2⟩ rfl ?_
    refine AK.val _ (Yl.fieldAddr fd72_1 rfl) ⟨_, rfl, congrArg (fun b => some (Value.bool b)) hg_7_2⟩ rfl ?_
    refine AK.val _ (Yl.loadBox on70 rfl bsp rfl) ⟨_, rfl, congrArg (fun b => some (Value.bool b)) hg_7_2⟩ rfl ?_
    refine AK.val _ (Yl.move rfl) ⟨_, rfl, congrArg (fun b => some (Value.bool b)) hg_7_2⟩ rfl ?_
    first | refine AK.val _ (.iN sl70 rfl rfl) ⟨_, rfl, congrArg (fun b => some (Value.bool b)) hg_7_2⟩ rfl ?_ | refine AK.val _ (.iK sl70 rfl rfl) ⟨_, rfl, congrArg (fun b => some (Value.bool b)) hg_7_2⟩ rfl ?_
    refine AK.val (.int .i32 (x.2.2.2.2.2.getD (x.2.2.1.getD x.1 0) 0)) (Yl.loadI on21 rfl rdp (by rw [hC.fdl]; omega)) ⟨_, rfl, congrArg (fun b => some (Value.bool b)) hg_7_2⟩ rfl ?_
    refine AK.val _ (Yl.lss rfl rfl) ⟨_, rfl, congrArg (fun b => some (Value.bool b)) hg_7_2⟩ rfl ?_
    refine AK.val _ (Yl.move rfl) ⟨_, rfl, congrArg (fun b => some (Value.bool b)) hg_7_2⟩ rfl ?_
    refine AK.splitB (g := 48) rfl (fun hg_7_11 => ?_) (fun hg_7_11 => ?_)
    ·have hg_7_11' := hg_7_11
     try simp only [bs] at hg_7_11'
     refine AK.pass rfl rfl (hg_7_11) rfl ?_
     refine AK.pass rfl rfl (hg_7_11) rfl ?_
     refine AK.pass rfl rfl (hg_7_11) rfl ?_
     refine AK.pass rfl rfl (hg_7_11) rfl ?_
     refine AK.pass rfl rfl (hg_7_11) rfl ?_
     refine AK.pass rfl rfl (hg_7_11) rfl ?_
     refine AK.pass rfl rfl (hg_7_11) rfl ?_
     refine AK.pass rfl rfl (hg_7_11) rfl ?_
     refine AK.pass rfl rfl (hg_7_11) rfl ?_
     refine AK.val _ (Yl.pickT rfl (hg_7_11) rfl) ⟨_, rfl, congrArg (fun b => some (Value.bool b)) hg_7_2⟩ rfl ?_
     refine .v (.pickT rfl (hg_7_2) rfl) ?_
     refine .nt hK11 ?_
     refine AK.cond_t rfl (rfl) ?_
     rw [if_pos (by first | omega | simpa using hc1)] at hCf
     obtain ⟨D, hD⟩ : ∃ D : List Int, D = x.2.2.2.2.2.set (x.2.2.1.getD x.1 0) (x.2.2.2.2.2.getD r 0) := ⟨_, rfl⟩
     have hCD := hCf
     rw [← hD] at hCD
     refine AK.region ?_
     refine .mv rfl ?_
     refine .v (.nilCheck rfl) ?_
     refine .v (.fieldAddr fd72_1 rfl) ?_
     refine .v (.loadBox on70 rfl bsp rfl) ?_
     refine .mv rfl (.mv rfl ?_)
     first | refine .v (.iN sl70 rfl rfl) ?_ | refine .v (.iK sl70 rfl rfl) ?_
     refine AK.store1e 2 rfl sz21 rfl rfl rfl rfl (by omega) (cs' := (D.map (Value.int .i32))) (by rw [hD, List.map_set]; rfl) trivial ?_
     refine .nt hK9 ?_
     refine .sr fun _ hK12 => ?_
     refine .mv rfl ?_
     refine .v (.nilCheck rfl) ?_
     refine .v (.fieldAddr fd72_0 rfl) ?_
     refine .v (.loadBox on69 rfl bsp rfl) ?_
     refine .mv rfl ?_
     first | refine .v (.iN sl69 rfl rfl) ?_ | refine .v (.iK sl69 rfl rfl) ?_
     refine AK.val (av6 x.2.2.2.2.1 (x.2.2.1.getD x.1 0)) (Yl.loadG ag73 rfl rdp (by omega)) trivial rfl ?_
     refine .mv rfl (.nt hK12 (.block ?_))
     refine AK.loopK (X := Nat × Value × List Nat × List Int × List Int) [(0, _), (2, _), (4, _), (5, _), (73, _)] (fun y => [(3, y.2.1), (74, .int .i64 (y.1 : Int))]) (fun y => [box bf 72 2 [vn, vf], row vn 73 6 N.length (y.2.2.2.2.map (Value.int .i32)), row vf 21 1 N.length (D.map (Value.int .i32)), row mv 21 1 N.length (y.2.2.2.1.map (Value.int .i32)), row y.2.1 21 1 y.2.2.1.length ((qz y.2.2.1).map (Value.int .i32))]) (fun y => Cmp ps N f0 d0 x.1 y.1 (x.1 + 1) y.2.2.1 y.2.2.2.1 y.2.2.2.2 D ∧ IsSl y.2.1 ∧ y.2.2.1.getD x.1 0 = (x.2.2.1.getD x.1 0) ∧ x.1 < y.2.2.1.length ∧ ∀ z, y.1 ≤ z → z < 6 → x.2.2.2.2.1.getD ((x.2.2.1.getD x.1 0) * 6 + z) 0 = y.2.2.2.2.getD ((x.2.2.1.getD x.1 0) * 6 + z) 0) (fun y => 6 - y.1) ((0, x.2.1, x.2.2.1, x.2.2.2.1, x.2.2.2.2.1)) slr ?_ ?_ ?_ ?_
     ·exact ⟨hCD, sq, rfl, hi, fun _ _ _ => rfl⟩
     ·exact slr
     ·exact fun w hw => hw
     ·intro y hg1 _ hK13
      obtain ⟨hD1, sy, hSe, hiq, hag⟩ := hg1
      have hqle2 := hD1.qle T
      have hfl2 := hD1.fll
      have hsh2 := hD1.shl
      refine .sr fun _ hK14 => ?_
      refine .v (.lss rfl rfl) ?_
      refine .nt hK14 ?_
      refine .seq fun _ hK15 => ?_
      refine AK.condD rfl (fun hc2 => ?_) (fun hc2 => ?_)
      ·have hy6 : y.1 < 6 := by omega
       obtain ⟨r2, hr2, hr2N⟩ := hD1.shB T hiq
       rw [hSe] at hr2
       obtain ⟨fb, hfb⟩ : ∃ fb : Int, fb = (if (x.2.2.1.getD x.1 0) = 0 then 0 else y.2.2.2.2.getD ((y.2.2.2.1.getD (x.2.2.1.getD x.1 0) 0).toNat * 6 + y.1) 0) := ⟨_, rfl⟩
       have hE := hD1.entry T hiq hy6
       rw [hSe] at hE
       refine .skip ?_
       refine AK.then_ (hK15 _ ?_)
       refine .seq fun _ hK16 => ?_
       refine .block ?_
       refine .sr fun _ hK17 => ?_
       refine .mv rfl ?_
       refine AK.val (.int .i32 (y.2.2.2.2.getD ((x.2.2.1.getD x.1 0) * 6 + y.1) 0)) (Yl.idxAgg ar73 (by kernel_rfl) rfl rfl (by omega) (by rw [← hag y.1 (Nat.le_refl _) (by omega)]; exact av6_get (by omega) (by rw [hC.fll]; omega))) trivial rfl ?_
       refine .as rfl (.as rfl (.nt hK17 ?_))
       refine .sr fun _ hK18 => ?_
       refine .as rfl (.nt hK18 ?_)
       refine .seq fun _ hK19 => ?_
       refine .sr fun _ hK20 => ?_
       refine .mv rfl ?_
       refine .v (.neq rfl rfl) ?_
       refine .nt hK20 ?_
       refine AK.condNe rfl (fun hc3 => ?_) (fun hc3 => ?_)
       ·refine AK.quiet mixed krf ?_
        refine .mv rfl ?_
        refine .v (.nilCheck rfl) ?_
        refine .v (.fieldAddr fd72_0 rfl) ?_
        refine .v (.loadBox on69 rfl bsp rfl) ?_
        refine .mv rfl (.mv rfl ?_)
        first | refine .v (.iN sl70 rfl rfl) ?_ | refine .v (.iK sl70 rfl rfl) ?_
        refine QK.val (.int .i32 (r2 : Int)) (Yl.valE (Yl.loadI on21 rfl rdp (by rw [hsh2]; omega)) (congrArg (Value.int .i32) hr2)) trivial rfl ?_
        refine .mv rfl ?_
        first | refine .v (.iN sl69 rfl rfl) ?_ | refine .v (.iK sl69 rfl rfl) ?_
        refine .v (.idxArrR ar73 rfl rfl (by omega)) ?_
        refine QK.val (.int .i32 fb) (Yl.loadAt on21 rfl rdp (by rw [hfb, if_neg (by omega), hr2]; exact at6 (by omega) (by omega))) trivial rfl ?_
        refine .as rfl ?_
        refine QK.nil (QK.fin ?_)
        refine AK.then_ (hK19 _ ?_)
        refine .seq fun _ hK21 => ?_
        refine .sr fun _ hK22 => ?_
        refine .mv rfl ?_
        refine .v (.eql rfl rfl) ?_
        refine .nt hK22 ?_
        refine AK.condD rfl (fun hc4 => ?_) (fun hc4 => ?_)
        ·have hn1 := hD1.none T hiq hy6 (by rw [hSe]; exact hc4)
         rw [hSe, ← hfb] at hn1
         have hag1 : ∀ z, y.1 + 1 ≤ z → z < 6 → x.2.2.2.2.1.getD ((x.2.2.1.getD x.1 0) * 6 + z) 0 = (y.2.2.2.2.set ((x.2.2.1.getD x.1 0) * 6 + y.1) fb).getD ((x.2.2.1.getD x.1 0) * 6 + z) 0 := fun z hz hz6 => by rw [Go.Sx.getD_set_ne (by omega)]; exact hag z (by omega) hz6
         refine .sr fun _ hK23 => ?_
         refine .mv rfl ?_
         refine .v (.nilCheck rfl) ?_
         refine .v (.fieldAddr fd72_0 rfl) ?_
         refine .v (.loadBox on69 rfl bsp rfl) ?_
         refine .mv rfl (.mv rfl (.mv rfl ?_))
         first | refine .v (.iN sl69 rfl rfl) ?_ | refine .v (.iK sl69 rfl rfl) ?_
         refine .v (.idxArrR ar73 rfl rfl (by omega)) ?_
         refine AK.storeAt 1 (cs' := ((y.2.2.2.2.set ((x.2.2.1.getD x.1 0) * 6 + y.1) fb).map (Value.int .i32))) rfl sz21 rfl rfl rfl rfl (by omega) (set_map6 (by omega) (by first | rfl | (rw [hfb, if_pos (by omega)]))) trivial ?_
         refine .nt hK23 (.exit (.then_exit (.block_exit ?_)))
         refine AK.then_ (hK16 _ ?_)
         refine AK.region ?_
         refine .v (.add rfl rfl (by omega)) ?_
         refine .mv rfl (.nil ?_)
         first | refine AK.then_ (hK13 _ _ ((y.1 + 1, y.2.1, y.2.2.1, y.2.2.2.1, y.2.2.2.2.set ((x.2.2.1.getD x.1 0) * 6 + y.1) fb)) ⟨hn1, sy, hSe, hiq, hag1⟩ (by dsimp only; omega) (slr) (fun w hw => hw)) | refine AK.then_ (hK13 _ _ ((y.1 + 1, vq2, y.2.2.1 ++ [t], y.2.2.2.1.set t fb, y.2.2.2.2)) ⟨hn2, svq2, hSe2, hiq2, hag2⟩ (by dsimp only; omega) (slr) (fun w hw => by dsimp only; rw [qz_snoc, List.map_append, List.length_append]; rw [ht] at hw; exact hw))
        ·obtain ⟨t, ht, htN, -⟩ : ∃ t : Nat, y.2.2.2.2.getD ((x.2.2.1.getD x.1 0) * 6 + y.1) 0 = (t : Int) ∧ t < N.length ∧ True := by
          rcases hE with ⟨t, h1, h2, _⟩ | ⟨_, h0⟩
          ·exact ⟨t, h1, h2, trivial⟩
          ·exact absurd h0 hc4
         have hn2 := hD1.some T hiq hy6 (t := t) (by rw [hSe]; exact ht) (fun e => hc4 (by rw [ht, e]; rfl))
         rw [hSe, ← hfb] at hn2
         have hSe2 : (y.2.2.1 ++ [t]).getD x.1 0 = (x.2.2.1.getD x.1 0) := by rw [getD_app_lt hiq]; exact hSe
         have hiq2 : x.1 < (y.2.2.1 ++ [t]).length := by rw [List.length_append]; omega
         have hag2 : ∀ z, y.1 + 1 ≤ z → z < 6 → x.2.2.2.2.1.getD ((x.2.2.1.getD x.1 0) * 6 + z) 0 = y.2.2.2.2.getD ((x.2.2.1.getD x.1 0) * 6 + z) 0 := fun z hz hz6 => hag z (by omega) hz6
         refine .skip ?_
         refine AK.then_ (hK21 _ ?_)
         refine .sr fun _ hK24 => ?_
         refine .mv rfl (.mv rfl (.mv rfl ?_))
         first | refine .v (.iN sl70 rfl rfl) ?_ | refine .v (.iK sl70 rfl rfl) ?_
         refine AK.store1e 3 rfl sz21 rfl rfl rfl rfl (by omega) (cs' := ((y.2.2.2.1.set t fb).map (Value.int .i32))) (by rw [List.map_set, ht]; first | rfl | (rw [hfb, if_pos (by omega)]; rfl)) trivial ?_
         refine .nt hK24 ?_
         refine AK.region ?_
         refine .mv rfl (.mv rfl ?_)
         refine AK.append1 4 rfl sl70 el21 rfl (by decide) rfl (by intro k hk; cases hk; rfl) rfl (by intro u hu; simp [Value.cells] at hu; subst hu; rfl) (by omega) (by omega) (by decide) rfl rfl (fun vq2 _ svq2 => ?_)
         refine .as rfl (.nil (.block_normal ?_))
         refine AK.then_ (hK16 _ ?_)
         refine AK.region ?_
         refine .v (.add rfl rfl (by omega)) ?_
         refine .mv rfl (.nil ?_)
         first | refine AK.then_ (hK13 _ _ ((y.1 + 1, y.2.1, y.2.2.1, y.2.2.2.1, y.2.2.2.2.set ((x.2.2.1.getD x.1 0) * 6 + y.1) fb)) ⟨hn1, sy, hSe, hiq, hag1⟩ (by dsimp only; omega) (slr) (fun w hw => hw)) | refine AK.then_ (hK13 _ _ ((y.1 + 1, vq2, y.2.2.1 ++ [t], y.2.2.2.1.set t fb, y.2.2.2.2)) ⟨hn2, svq2, hSe2, hiq2, hag2⟩ (by dsimp only; omega) (slr) (fun w hw => by dsimp only; rw [qz_snoc, List.map_append, List.length_append]; rw [ht] at hw; exact hw))
       ·refine .skip ?_
        refine AK.then_ (hK19 _ ?_)
        refine .seq fun _ hK25 => ?_
        refine .sr fun _ hK26 => ?_
        refine .mv rfl ?_
        refine .v (.eql rfl rfl) ?_
        refine .nt hK26 ?_
        refine AK.condD rfl (fun hc4 => ?_) (fun hc4 => ?_)
        ·have hn1 := hD1.none T hiq hy6 (by rw [hSe]; exact hc4)
         rw [hSe, ← hfb] at hn1
         have hag1 : ∀ z, y.1 + 1 ≤ z → z < 6 → x.2.2.2.2.1.getD ((x.2.2.1.getD x.1 0) * 6 + z) 0 = (y.2.2.2.2.set ((x.2.2.1.getD x.1 0) * 6 + y.1) fb).getD ((x.2.2.1.getD x.1 0) * 6 + z) 0 := fun z hz hz6 => by rw [Go.Sx.getD_set_ne (by omega)]; exact hag z (by omega) hz6
         refine .sr fun _ hK27 => ?_
         refine .mv rfl ?_
         refine .v (.nilCheck rfl) ?_
         refine .v (.fieldAddr fd72_0 rfl) ?_
         refine .v (.loadBox on69 rfl bsp rfl) ?_
         refine .mv rfl (.mv rfl (.mv rfl ?_))
         first | refine .v (.iN sl69 rfl rfl) ?_ | refine .v (.iK sl69 rfl rfl) ?_
         refine .v (.idxArrR ar73 rfl rfl (by omega)) ?_
         refine AK.storeAt 1 (cs' := ((y.2.2.2.2.set ((x.2.2.1.getD x.1 0) * 6 + y.1) fb).map (Value.int .i32))) rfl sz21 rfl rfl rfl rfl (by omega) (set_map6 (by omega) (by first | rfl | (rw [hfb, if_pos (by omega)]))) trivial ?_
         refine .nt hK27 (.exit (.then_exit (.block_exit ?_)))
         refine AK.then_ (hK16 _ ?_)
         refine AK.region ?_
         refine .v (.add rfl rfl (by omega)) ?_
         refine .mv rfl (.nil ?_)
         first | refine AK.then_ (hK13 _ _ ((y.1 + 1, y.2.1, y.2.2.1, y.2.2.2.1, y.2.2.2.2.set ((x.2.2.1.getD x.1 0) * 6 + y.1) fb)) ⟨hn1, sy, hSe, hiq, hag1⟩ (by dsimp only; omega) (slr) (fun w hw => hw)) | refine AK.then_ (hK13 _ _ ((y.1 + 1, vq2, y.2.2.1 ++ [t], y.2.2.2.1.set t fb, y.2.2.2.2)) ⟨hn2, svq2, hSe2, hiq2, hag2⟩ (by dsimp only; omega) (slr) (fun w hw => by dsimp only; rw [qz_snoc, List.map_append, List.length_append]; rw [ht] at hw; exact hw))
        ·obtain ⟨t, ht, htN, -⟩ : ∃ t : Nat, y.2.2.2.2.getD ((x.2.2.1.getD x.1 0) * 6 + y.1) 0 = (t : Int) ∧ t < N.length ∧ True := by
          rcases hE with ⟨t, h1, h2, _⟩ | ⟨_, h0⟩
          ·exact ⟨t, h1, h2, trivial⟩
          ·exact absurd h0 hc4
         have hn2 := hD1.some T hiq hy6 (t := t) (by rw [hSe]; exact ht) (fun e => hc4 (by rw [ht, e]; rfl))
         rw [hSe, ← hfb] at hn2
         have hSe2 : (y.2.2.1 ++ [t]).getD x.1 0 = (x.2.2.1.getD x.1 0) := by rw [getD_app_lt hiq]; exact hSe
         have hiq2 : x.1 < (y.2.2.1 ++ [t]).length := by rw [List.length_append]; omega
         have hag2 : ∀ z, y.1 + 1 ≤ z → z < 6 → x.2.2.2.2.1.getD ((x.2.2.1.getD x.1 0) * 6 + z) 0 = y.2.2.2.2.getD ((x.2.2.1.getD x.1 0) * 6 + z) 0 := fun z hz hz6 => hag z (by omega) hz6
         refine .skip ?_
         refine AK.then_ (hK25 _ ?_)
         refine .sr fun _ hK28 => ?_
         refine .mv rfl (.mv rfl (.mv rfl ?_))
         first | refine .v (.iN sl70 rfl rfl) ?_ | refine .v (.iK sl70 rfl rfl) ?_
         refine AK.store1e 3 rfl sz21 rfl rfl rfl rfl (by omega) (cs' := ((y.2.2.2.1.set t fb).map (Value.int .i32))) (by rw [List.map_set, ht]; first | rfl | (rw [hfb, if_pos (by omega)]; rfl)) trivial ?_
         refine .nt hK28 ?_
         refine AK.region ?_
         refine .mv rfl (.mv rfl ?_)
         refine AK.append1 4 rfl sl70 el21 rfl (by decide) rfl (by intro k hk; cases hk; rfl) rfl (by intro u hu; simp [Value.cells] at hu; subst hu; rfl) (by omega) (by omega) (by decide) rfl rfl (fun vq2 _ svq2 => ?_)
         refine .as rfl (.nil (.block_normal ?_))
         refine AK.then_ (hK16 _ ?_)
         refine AK.region ?_
         refine .v (.add rfl rfl (by omega)) ?_
         refine .mv rfl (.nil ?_)
         first | refine AK.then_ (hK13 _ _ ((y.1 + 1, y.2.1, y.2.2.1, y.2.2.2.1, y.2.2.2.2.set ((x.2.2.1.getD x.1 0) * 6 + y.1) fb)) ⟨hn1, sy, hSe, hiq, hag1⟩ (by dsimp only; omega) (slr) (fun w hw => hw)) | refine AK.then_ (hK13 _ _ ((y.1 + 1, vq2, y.2.2.1 ++ [t], y.2.2.2.1.set t fb, y.2.2.2.2)) ⟨hn2, svq2, hSe2, hiq2, hag2⟩ (by dsimp only; omega) (slr) (fun w hw => by dsimp only; rw [qz_snoc, List.map_append, List.length_append]; rw [ht] at hw; exact hw))
      ·refine .exit (.then_exit (.then_exit (.block_exit (.block_normal ?_))))
       refine AK.then_ (hK7 _ ?_)
       refine AK.region ?_
       refine .mv rfl ?_
       refine .v (.add rfl rfl (by omega)) ?_
       refine .as rfl (.nil ?_)
       refine AK.then_ (hK4 _ _ ((x.1 + 1, y.2.1, y.2.2.1, y.2.2.2.1, y.2.2.2.2, D)) ⟨Cmp.next T (by have hh := hD1; rw [show y.1 = 6 by have := hD1.x6; omega] at hh; exact hh), sy⟩ (by dsimp only; omega) (slr) (fun w hw => hw))
    ·have hg_7_11' := hg_7_11
     try simp only [bs] at hg_7_11'
     refine AK.val _ (Yl.move rfl) ⟨_, rfl, congrArg (fun b => some (Value.bool b)) hg_7_11⟩ rfl ?_
     refine AK.val _ (Yl.move rfl) ⟨_, rfl, congrArg (fun b => some (Value.bool b)) hg_7_11⟩ rfl ?_
     refine AK.val _ (Yl.nilCheck rfl) ⟨_, rfl, congrArg (fun b => some (Value.bool b)) hg_7_11⟩ rfl ?_
     refine AK.val _ (Yl.fieldAddr fd72_1 rfl) ⟨_, rfl, congrArg (fun b => some (Value.bool b)) hg_7_11⟩ rfl ?_
     refine AK.val _ (Yl.loadBox on70 rfl bsp rfl) ⟨_, rfl, congrArg (fun b => some (Value.bool b)) hg_7_11⟩ rfl ?_
     refine AK.val _ (Yl.move rfl) ⟨_, rfl, congrArg (fun b => some (Value.bool b)) hg_7_11⟩ rfl ?_
     first | refine AK.val _ (.iN sl70 rfl rfl) ⟨_, rfl, congrArg (fun b => some (Value.bool b)) hg_7_11⟩ rfl ?_ | refine AK.val _ (.iK sl70 rfl rfl) ⟨_, rfl, congrArg (fun b => some (Value.bool b)) hg_7_11⟩ rfl ?_
     refine AK.val (.int .i32 (x.2.2.2.2.2.getD (x.2.2.1.getD x.1 0) 0)) (Yl.loadI on21 rfl rdp (by rw [hC.fdl]; omega)) ⟨_, rfl, congrArg (fun b => some (Value.bool b)) hg_7_11⟩ rfl ?_
     refine AK.val _ (Yl.lss rfl rfl) ⟨_, rfl, congrArg (fun b => some (Value.bool b)) hg_7_11⟩ rfl ?_
     refine AK.val _ (Yl.pickF rfl (hg_7_11) rfl) ⟨_, rfl, congrArg (fun b => some (Value.bool b)) hg_7_2⟩ rfl ?_
     refine .v (.pickT rfl (hg_7_2) rfl) ?_
     refine .nt hK11 ?_
     refine AK.condD rfl (fun hc1 => ?_) (fun hc1 => ?_)
     ·rw [if_pos (by first | omega | simpa using hc1)] at hCf
      obtain ⟨D, hD⟩ : ∃ D : List Int, D = x.2.2.2.2.2.set (x.2.2.1.getD x.1 0) (x.2.2.2.2.2.getD r 0) := ⟨_, rfl⟩
      have hCD := hCf
      rw [← hD] at hCD
      refine AK.region ?_
      refine .mv rfl ?_
      refine .v (.nilCheck rfl) ?_
      refine .v (.fieldAddr fd72_1 rfl) ?_
      refine .v (.loadBox on70 rfl bsp rfl) ?_
      refine .mv rfl (.mv rfl ?_)
      first | refine .v (.iN sl70 rfl rfl) ?_ | refine .v (.iK sl70 rfl rfl) ?_
      refine AK.store1e 2 rfl sz21 rfl rfl rfl rfl (by omega) (cs' := (D.map (Value.int .i32))) (by rw [hD, List.map_set]; rfl) trivial ?_
      refine .nt hK9 ?_
      refine .sr fun _ hK29 => ?_
      refine .mv rfl ?_
      refine .v (.nilCheck rfl) ?_
      refine .v (.fieldAddr fd72_0 rfl) ?_
      refine .v (.loadBox on69 rfl bsp rfl) ?_
      refine .mv rfl ?_
      first | refine .v (.iN sl69 rfl rfl) ?_ | refine .v (.iK sl69 rfl rfl) ?_
      refine AK.val (av6 x.2.2.2.2.1 (x.2.2.1.getD x.1 0)) (Yl.loadG ag73 rfl rdp (by omega)) trivial rfl ?_
      refine .mv rfl (.nt hK29 (.block ?_))
      refine AK.loopK (X := Nat × Value × List Nat × List Int × List Int) [(0, _), (2, _), (4, _), (5, _), (73, _)] (fun y => [(3, y.2.1), (74, .int .i64 (y.1 : Int))]) (fun y => [box bf 72 2 [vn, vf], row vn 73 6 N.length (y.2.2.2.2.map (Value.int .i32)), row vf 21 1 N.length (D.map (Value.int .i32)), row mv 21 1 N.length (y.2.2.2.1.map (Value.int .i32)), row y.2.1 21 1 y.2.2.1.length ((qz y.2.2.1).map (Value.int .i32))]) (fun y => Cmp ps N f0 d0 x.1 y.1 (x.1 + 1) y.2.2.1 y.2.2.2.1 y.2.2.2.2 D ∧ IsSl y.2.1 ∧ y.2.2.1.getD x.1 0 = (x.2.2.1.getD x.1 0) ∧ x.1 < y.2.2.1.length ∧ ∀ z, y.1 ≤ z → z < 6 → x.2.2.2.2.1.getD ((x.2.2.1.getD x.1 0) * 6 + z) 0 = y.2.2.2.2.getD ((x.2.2.1.getD x.1 0) * 6 + z) 0) (fun y => 6 - y.1) ((0, x.2.1, x.2.2.1, x.2.2.2.1, x.2.2.2.2.1)) slr ?_ ?_ ?_ ?_
      ·exact ⟨hCD, sq, rfl, hi, fun _ _ _ => rfl⟩
      ·exact slr
      ·exact fun w hw => hw
      ·intro y hg1 _ hK30
       obtain ⟨hD1, sy, hSe, hiq, hag⟩ := hg1
       have hqle2 := hD1.qle T
       have hfl2 := hD1.fll
       have hsh2 := hD1.shl
       refine .sr fun _ hK31 => ?_
       refine .v (.lss rfl rfl) ?_
       refine .nt hK31 ?_
       refine .seq fun _ hK32 => ?_
       refine AK.condD rfl (fun hc2 => ?_) (fun hc2 => ?_)
       ·have hy6 : y.1 < 6 := by omega
        obtain ⟨r2, hr2, hr2N⟩ := hD1.shB T hiq
        rw [hSe] at hr2
        obtain ⟨fb, hfb⟩ : ∃ fb : Int, fb = (if (x.2.2.1.getD x.1 0) = 0 then 0 else y.2.2.2.2.getD ((y.2.2.2.1.getD (x.2.2.1.getD x.1 0) 0).toNat * 6 + y.1) 0) := ⟨_, rfl⟩
        have hE := hD1.entry T hiq hy6
        rw [hSe] at hE
        refine .skip ?_
        refine AK.then_ (hK32 _ ?_)
        refine .seq fun _ hK33 => ?_
        refine .block ?_
        refine .sr fun _ hK34 => ?_
        refine .mv rfl ?_
        refine AK.val (.int .i32 (y.2.2.2.2.getD ((x.2.2.1.getD x.1 0) * 6 + y.1) 0)) (Yl.idxAgg ar73 (by kernel_rfl) rfl rfl (by omega) (by rw [← hag y.1 (Nat.le_refl _) (by omega)]; exact av6_get (by omega) (by rw [hC.fll]; omega))) trivial rfl ?_
        refine .as rfl (.as rfl (.nt hK34 ?_))
        refine .sr fun _ hK35 => ?_
        refine .as rfl (.nt hK35 ?_)
        refine .seq fun _ hK36 => ?_
        refine .sr fun _ hK37 => ?_
        refine .mv rfl ?_
        refine .v (.neq rfl rfl) ?_
        refine .nt hK37 ?_
        refine AK.condNe rfl (fun hc3 => ?_) (fun hc3 => ?_)
        ·refine AK.quiet mixed krf ?_
         refine .mv rfl ?_
         refine .v (.nilCheck rfl) ?_
         refine .v (.fieldAddr fd72_0 rfl) ?_
         refine .v (.loadBox on69 rfl bsp rfl) ?_
         refine .mv rfl (.mv rfl ?_)
         first | refine .v (.iN sl70 rfl rfl) ?_ | refine .v (.iK sl70 rfl rfl) ?_
         refine QK.val (.int .i32 (r2 : Int)) (Yl.valE (Yl.loadI on21 rfl rdp (by rw [hsh2]; omega)) (congrArg (Value.int .i32) hr2)) trivial rfl ?_
         refine .mv rfl ?_
         first | refine .v (.iN sl69 rfl rfl) ?_ | refine .v (.iK sl69 rfl rfl) ?_
         refine .v (.idxArrR ar73 rfl rfl (by omega)) ?_
         refine QK.val (.int .i32 fb) (Yl.loadAt on21 rfl rdp (by rw [hfb, if_neg (by omega), hr2]; exact at6 (by omega) (by omega))) trivial rfl ?_
         refine .as rfl ?_
         refine QK.nil (QK.fin ?_)
         refine AK.then_ (hK36 _ ?_)
         refine .seq fun _ hK38 => ?_
         refine .sr fun _ hK39 => ?_
         refine .mv rfl ?_
         refine .v (.eql rfl rfl) ?_
         refine .nt hK39 ?_
         refine AK.condD rfl (fun hc4 => ?_) (fun hc4 => ?_)
         ·have hn1 := hD1.none T hiq hy6 (by rw [hSe]; exact hc4)
          rw [hSe, ← hfb] at hn1
          have hag1 : ∀ z, y.1 + 1 ≤ z → z < 6 → x.2.2.2.2.1.getD ((x.2.2.1.getD x.1 0) * 6 + z) 0 = (y.2.2.2.2.set ((x.2.2.1.getD x.1 0) * 6 + y.1) fb).getD ((x.2.2.1.getD x.1 0) * 6 + z) 0 := fun z hz hz6 => by rw [Go.Sx.getD_set_ne (by omega)]; exact hag z (by omega) hz6
          refine .sr fun _ hK40 => ?_
          refine .mv rfl ?_
          refine .v (.nilCheck rfl) ?_
          refine .v (.fieldAddr fd72_0 rfl) ?_
          refine .v (.loadBox on69 rfl bsp rfl) ?_
          refine .mv rfl (.mv rfl (.mv rfl ?_))
          first | refine .v (.iN sl69 rfl rfl) ?_ | refine .v (.iK sl69 rfl rfl) ?_
          refine .v (.idxArrR ar73 rfl rfl (by omega)) ?_
          refine AK.storeAt 1 (cs' := ((y.2.2.2.2.set ((x.2.2.1.getD x.1 0) * 6 + y.1) fb).map (Value.int .i32))) rfl sz21 rfl rfl rfl rfl (by omega) (set_map6 (by omega) (by first | rfl | (rw [hfb, if_pos (by omega)]))) trivial ?_
          refine .nt hK40 (.exit (.then_exit (.block_exit ?_)))
          refine AK.then_ (hK33 _ ?_)
          refine AK.region ?_
          refine .v (.add rfl rfl (by omega)) ?_
          refine .mv rfl (.nil ?_)
          first | refine AK.then_ (hK30 _ _ ((y.1 + 1, y.2.1, y.2.2.1, y.2.2.2.1, y.2.2.2.2.set ((x.2.2.1.getD x.1 0) * 6 + y.1) fb)) ⟨hn1, sy, hSe, hiq, hag1⟩ (by dsimp only; omega) (slr) (fun w hw => hw)) | refine AK.then_ (hK30 _ _ ((y.1 + 1, vq2, y.2.2.1 ++ [t], y.2.2.2.1.set t fb, y.2.2.2.2)) ⟨hn2, svq2, hSe2, hiq2, hag2⟩ (by dsimp only; omega) (slr) (fun w hw => by dsimp only; rw [qz_snoc, List.map_append, List.length_append]; rw [ht] at hw; exact hw))
         ·obtain ⟨t, ht, htN, -⟩ : ∃ t : Nat, y.2.2.2.2.getD ((x.2.2.1.getD x.1 0) * 6 + y.1) 0 = (t : Int) ∧ t < N.length ∧ True := by
           rcases hE with ⟨t, h1, h2, _⟩ | ⟨_, h0⟩
           ·exact ⟨t, h1, h2, trivial⟩
           ·exact absurd h0 hc4
          have hn2 := hD1.some T hiq hy6 (t := t) (by rw [hSe]; exact ht) (fun e => hc4 (by rw [ht, e]; rfl))
          rw [hSe, ← hfb] at hn2
          have hSe2 : (y.2.2.1 ++ [t]).getD x.1 0 = (x.2.2.1.getD x.1 0) := by rw [getD_app_lt hiq]; exact hSe
          have hiq2 : x.1 < (y.2.2.1 ++ [t]).length := by rw [List.length_append]; omega
          have hag2 : ∀ z, y.1 + 1 ≤ z → z < 6 → x.2.2.2.2.1.getD ((x.2.2.1.getD x.1 0) * 6 + z) 0 = y.2.2.2.2.getD ((x.2.2.1.getD x.1 0) * 6 + z) 0 := fun z hz hz6 => hag z (by omega) hz6
          refine .skip ?_
          refine AK.then_ (hK38 _ ?_)
          refine .sr fun _ hK41 => ?_
          refine .mv rfl (.mv rfl (.mv rfl ?_))
          first | refine .v (.iN sl70 rfl rfl) ?_ | refine .v (.iK sl70 rfl rfl) ?_
          refine AK.store1e 3 rfl sz21 rfl rfl rfl rfl (by omega) (cs' := ((y.2.2.2.1.set t fb).map (Value.int .i32))) (by rw [List.map_set, ht]; first | rfl | (rw [hfb, if_pos (by omega)]; rfl)) trivial ?_
          refine .nt hK41 ?_
          refine AK.region ?_
          refine .mv rfl (.mv rfl ?_)
          refine AK.append1 4 rfl sl70 el21 rfl (by decide) rfl (by intro k hk; cases hk; rfl) rfl (by intro u hu; simp [Value.cells] at hu; subst hu; rfl) (by omega) (by omega) (by decide) rfl rfl (fun vq2 _ svq2 => ?_)
          refine .as rfl (.nil (.block_normal ?_))
          refine AK.then_ (hK33 _ ?_)
          refine AK.region ?_
          refine .v (.add rfl rfl (by omega)) ?_
          refine .mv rfl (.nil ?_)
          first | refine AK.then_ (hK30 _ _ ((y.1 + 1, y.2.1, y.2.2.1, y.2.2.2.1, y.2.2.2.2.set ((x.2.2.1.getD x.1 0) * 6 + y.1) fb)) ⟨hn1, sy, hSe, hiq, hag1⟩ (by dsimp only; omega) (slr) (fun w hw => hw)) | refine AK.then_ (hK30 _ _ ((y.1 + 1, vq2, y.2.2.1 ++ [t], y.2.2.2.1.set t fb, y.2.2.2.2)) ⟨hn2, svq2, hSe2, hiq2, hag2⟩ (by dsimp only; omega) (slr) (fun w hw => by dsimp only; rw [qz_snoc, List.map_append, List.length_append]; rw [ht] at hw; exact hw))
        ·refine .skip ?_
         refine AK.then_ (hK36 _ ?_)
         refine .seq fun _ hK42 => ?_
         refine .sr fun _ hK43 => ?_
         refine .mv rfl ?_
         refine .v (.eql rfl rfl) ?_
         refine .nt hK43 ?_
         refine AK.condD rfl (fun hc4 => ?_) (fun hc4 => ?_)
         ·have hn1 := hD1.none T hiq hy6 (by rw [hSe]; exact hc4)
          rw [hSe, ← hfb] at hn1
          have hag1 : ∀ z, y.1 + 1 ≤ z → z < 6 → x.2.2.2.2.1.getD ((x.2.2.1.getD x.1 0) * 6 + z) 0 = (y.2.2.2.2.set ((x.2.2.1.getD x.1 0) * 6 + y.1) fb).getD ((x.2.2.1.getD x.1 0) * 6 + z) 0 := fun z hz hz6 => by rw [Go.Sx.getD_set_ne (by omega)]; exact hag z (by omega) hz6
          refine .sr fun _ hK44 => ?_
          refine .mv rfl ?_
          refine .v (.nilCheck rfl) ?_
          refine .v (.fieldAddr fd72_0 rfl) ?_
          refine .v (.loadBox on69 rfl bsp rfl) ?_
          refine .mv rfl (.mv rfl (.mv rfl ?_))
          first | refine .v (.iN sl69 rfl rfl) ?_ | refine .v (.iK sl69 rfl rfl) ?_
          refine .v (.idxArrR ar73 rfl rfl (by omega)) ?_
          refine AK.storeAt 1 (cs' := ((y.2.2.2.2.set ((x.2.2.1.getD x.1 0) * 6 + y.1) fb).map (Value.int .i32))) rfl sz21 rfl rfl rfl rfl (by omega) (set_map6 (by omega) (by first | rfl | (rw [hfb, if_pos (by omega)]))) trivial ?_
          refine .nt hK44 (.exit (.then_exit (.block_exit ?_)))
          refine AK.then_ (hK33 _ ?_)
          refine AK.region ?_
          refine .v (.add rfl rfl (by omega)) ?_
          refine .mv rfl (.nil ?_)
          first | refine AK.then_ (hK30 _ _ ((y.1 + 1, y.2.1, y.2.2.1, y.2.2.2.1, y.2.2.2.2.set ((x.2.2.1.getD x.1 0) * 6 + y.1) fb)) ⟨hn1, sy, hSe, hiq, hag1⟩ (by dsimp only; omega) (slr) (fun w hw => hw)) | refine AK.then_ (hK30 _ _ ((y.1 + 1, vq2, y.2.2.1 ++ [t], y.2.2.2.1.set t fb, y.2.2.2.2)) ⟨hn2, svq2, hSe2, hiq2, hag2⟩ (by dsimp only; omega) (slr) (fun w hw => by dsimp only; rw [qz_snoc, List.map_append, List.length_append]; rw [ht] at hw; exact hw))
         ·obtain ⟨t, ht, htN, -⟩ : ∃ t : Nat, y.2.2.2.2.getD ((x.2.2.1.getD x.1 0) * 6 + y.1) 0 = (t : Int) ∧ t < N.length ∧ True := by
           rcases hE with ⟨t, h1, h2, _⟩ | ⟨_, h0⟩
           ·exact ⟨t, h1, h2, trivial⟩
           ·exact absurd h0 hc4
          have hn2 := hD1.some T hiq hy6 (t := t) (by rw [hSe]; exact ht) (fun e => hc4 (by rw [ht, e]; rfl))
          rw [hSe, ← hfb] at hn2
          have hSe2 : (y.2.2.1 ++ [t]).getD x.1 0 = (x.2.2.1.getD x.1 0) := by rw [getD_app_lt hiq]; exact hSe
          have hiq2 : x.1 < (y.2.2.1 ++ [t]).length := by rw [List.length_append]; omega
          have hag2 : ∀ z, y.1 + 1 ≤ z → z < 6 → x.2.2.2.2.1.getD ((x.2.2.1.getD x.1 0) * 6 + z) 0 = y.2.2.2.2.getD ((x.2.2.1.getD x.1 0) * 6 + z) 0 := fun z hz hz6 => hag z (by omega) hz6
          refine .skip ?_
          refine AK.then_ (hK42 _ ?_)
          refine .sr fun _ hK45 => ?_
          refine .mv rfl (.mv rfl (.mv rfl ?_))
          first | refine .v (.iN sl70 rfl rfl) ?_ | refine .v (.iK sl70 rfl rfl) ?_
          refine AK.store1e 3 rfl sz21 rfl rfl rfl rfl (by omega) (cs' := ((y.2.2.2.1.set t fb).map (Value.int .i32))) (by rw [List.map_set, ht]; first | rfl | (rw [hfb, if_pos (by omega)]; rfl)) trivial ?_
          refine .nt hK45 ?_
          refine AK.region ?_
          refine .mv rfl (.mv rfl ?_)
          refine AK.append1 4 rfl sl70 el21 rfl (by decide) rfl (by intro k hk; cases hk; rfl) rfl (by intro u hu; simp [Value.cells] at hu; subst hu; rfl) (by omega) (by omega) (by decide) rfl rfl (fun vq2 _ svq2 => ?_)
          refine .as rfl (.nil (.block_normal ?_))
          refine AK.then_ (hK33 _ ?_)
          refine AK.region ?_
          refine .v (.add rfl rfl (by omega)) ?_
          refine .mv rfl (.nil ?_)
          first | refine AK.then_ (hK30 _ _ ((y.1 + 1, y.2.1, y.2.2.1, y.2.2.2.1, y.2.2.2.2.set ((x.2.2.1.getD x.1 0) * 6 + y.1) fb)) ⟨hn1, sy, hSe, hiq, hag1⟩ (by dsimp only; omega) (slr) (fun w hw => hw)) | refine AK.then_ (hK30 _ _ ((y.1 + 1, vq2, y.2.2.1 ++ [t], y.2.2.2.1.set t fb, y.2.2.2.2)) ⟨hn2, svq2, hSe2, hiq2, hag2⟩ (by dsimp only; omega) (slr) (fun w hw => by dsimp only; rw [qz_snoc, List.map_append, List.length_append]; rw [ht] at hw; exact hw))
       ·refine .exit (.then_exit (.then_exit (.block_exit (.block_normal ?_))))
        refine AK.then_ (hK7 _ ?_)
        refine AK.region ?_
        refine .mv rfl ?_
        refine .v (.add rfl rfl (by omega)) ?_
        refine .as rfl (.nil ?_)
        refine AK.then_ (hK4 _ _ ((x.1 + 1, y.2.1, y.2.2.1, y.2.2.2.1, y.2.2.2.2, D)) ⟨Cmp.next T (by have hh := hD1; rw [show y.1 = 6 by have := hD1.x6; omega] at hh; exact hh), sy⟩ (by dsimp only; omega) (slr) (fun w hw => hw))
     ·rw [if_neg (by first | omega | simpa using hc1)] at hCf
      obtain ⟨D, hD⟩ : ∃ D : List Int, D = x.2.2.2.2.2 := ⟨_, rfl⟩
      have hCD := hCf
      rw [← hD] at hCD
      rw [← hD]
      refine .skip ?_
      refine AK.then_ (hK9 _ ?_)
      refine .sr fun _ hK46 => ?_
      refine .mv rfl ?_
      refine .v (.nilCheck rfl) ?_
      refine .v (.fieldAddr fd72_0 rfl) ?_
      refine .v (.loadBox on69 rfl bsp rfl) ?_
      refine .mv rfl ?_
      first | refine .v (.iN sl69 rfl rfl) ?_ | refine .v (.iK sl69 rfl rfl) ?_
      refine AK.val (av6 x.2.2.2.2.1 (x.2.2.1.getD x.1 0)) (Yl.loadG ag73 rfl rdp (by omega)) trivial rfl ?_
      refine .mv rfl (.nt hK46 (.block ?_))
      refine AK.loopK (X := Nat × Value × List Nat × List Int × List Int) [(0, _), (2, _), (4, _), (5, _), (73, _)] (fun y => [(3, y.2.1), (74, .int .i64 (y.1 : Int))]) (fun y => [box bf 72 2 [vn, vf], row vn 73 6 N.length (y.2.2.2.2.map (Value.int .i32)), row vf 21 1 N.length (D.map (Value.int .i32)), row mv 21 1 N.length (y.2.2.2.1.map (Value.int .i32)), row y.2.1 21 1 y.2.2.1.length ((qz y.2.2.1).map (Value.int .i32))]) (fun y => Cmp ps N f0 d0 x.1 y.1 (x.1 + 1) y.2.2.1 y.2.2.2.1 y.2.2.2.2 D ∧ IsSl y.2.1 ∧ y.2.2.1.getD x.1 0 = (x.2.2.1.getD x.1 0) ∧ x.1 < y.2.2.1.length ∧ ∀ z, y.1 ≤ z → z < 6 → x.2.2.2.2.1.getD ((x.2.2.1.getD x.1 0) * 6 + z) 0 = y.2.2.2.2.getD ((x.2.2.1.getD x.1 0) * 6 + z) 0) (fun y => 6 - y.1) ((0, x.2.1, x.2.2.1, x.2.2.2.1, x.2.2.2.2.1)) slr ?_ ?_ ?_ ?_
      ·exact ⟨hCD, sq, rfl, hi, fun _ _ _ => rfl⟩
      ·exact slr
      ·exact fun w hw => hw
      ·intro y hg1 _ hK47
       obtain ⟨hD1, sy, hSe, hiq, hag⟩ := hg1
       have hqle2 := hD1.qle T
       have hfl2 := hD1.fll
       have hsh2 := hD1.shl
       refine .sr fun _ hK48 => ?_
       refine .v (.lss rfl rfl) ?_
       refine .nt hK48 ?_
       refine .seq fun _ hK49 => ?_
       refine AK.condD rfl (fun hc2 => ?_) (fun hc2 => ?_)
       ·have hy6 : y.1 < 6 := by omega
        obtain ⟨r2, hr2, hr2N⟩ := hD1.shB T hiq
        rw [hSe] at hr2
        obtain ⟨fb, hfb⟩ : ∃ fb : Int, fb = (if (x.2.2.1.getD x.1 0) = 0 then 0 else y.2.2.2.2.getD ((y.2.2.2.1.getD (x.2.2.1.getD x.1 0) 0).toNat * 6 + y.1) 0) := ⟨_, rfl⟩
        have hE := hD1.entry T hiq hy6
        rw [hSe] at hE
        refine .skip ?_
        refine AK.then_ (hK49 _ ?_)
        refine .seq fun _ hK50 => ?_
        refine .block ?_
        refine .sr fun _ hK51 => ?_
        refine .mv rfl ?_
        refine AK.val (.int .i32 (y.2.2.2.2.getD ((x.2.2.1.getD x.1 0) * 6 + y.1) 0)) (Yl.idxAgg ar73 (by kernel_rfl) rfl rfl (by omega) (by rw [← hag y.1 (Nat.le_refl _) (by omega)]; exact av6_get (by omega) (by rw [hC.fll]; omega))) trivial rfl ?_
        refine .as rfl (.as rfl (.nt hK51 ?_))
        refine .sr fun _ hK52 => ?_
        refine .as rfl (.nt hK52 ?_)
        refine .seq fun _ hK53 => ?_
        refine .sr fun _ hK54 => ?_
        refine .mv rfl ?_
        refine .v (.neq rfl rfl) ?_
        refine .nt hK54 ?_
        refine AK.condNe rfl (fun hc3 => ?_) (fun hc3 => ?_)
        ·refine AK.quiet mixed krf ?_
         refine .mv rfl ?_
         refine .v (.nilCheck rfl) ?_
         refine .v (.fieldAddr fd72_0 rfl) ?_
         refine .v (.loadBox on69 rfl bsp rfl) ?_
         refine .mv rfl (.mv rfl ?_)
         first | refine .v (.iN sl70 rfl rfl) ?_ | refine .v (.iK sl70 rfl rfl) ?_
         refine QK.val (.int .i32 (r2 : Int)) (Yl.valE (Yl.loadI on21 rfl rdp (by rw [hsh2]; omega)) (congrArg (Value.int .i32) hr2)) trivial rfl ?_
         refine .mv rfl ?_
         first | refine .v (.iN sl69 rfl rfl) ?_ | refine .v (.iK sl69 rfl rfl) ?_
         refine .v (.idxArrR ar73 rfl rfl (by omega)) ?_
         refine QK.val (.int .i32 fb) (Yl.loadAt on21 rfl rdp (by rw [hfb, if_neg (by omega), hr2]; exact at6 (by omega) (by omega))) trivial rfl ?_
         refine .as rfl ?_
         refine QK.nil (QK.fin ?_)
         refine AK.then_ (hK53 _ ?_)
         refine .seq fun _ hK55 => ?_
         refine .sr fun _ hK56 => ?_
         refine .mv rfl ?_
         refine .v (.eql rfl rfl) ?_
         refine .nt hK56 ?_
         refine AK.condD rfl (fun hc4 => ?_) (fun hc4 => ?_)
         ·have hn1 := hD1.none T hiq hy6 (by rw [hSe]; exact hc4)
          rw [hSe, ← hfb] at hn1
          have hag1 : ∀ z, y.1 + 1 ≤ z → z < 6 → x.2.2.2.2.1.getD ((x.2.2.1.getD x.1 0) * 6 + z) 0 = (y.2.2.2.2.set ((x.2.2.1.getD x.1 0) * 6 + y.1) fb).getD ((x.2.2.1.getD x.1 0) * 6 + z) 0 := fun z hz hz6 => by rw [Go.Sx.getD_set_ne (by omega)]; exact hag z (by omega) hz6
          refine .sr fun _ hK57 => ?_
          refine .mv rfl ?_
          refine .v (.nilCheck rfl) ?_
          refine .v (.fieldAddr fd72_0 rfl) ?_
          refine .v (.loadBox on69 rfl bsp rfl) ?_
          refine .mv rfl (.mv rfl (.mv rfl ?_))
          first | refine .v (.iN sl69 rfl rfl) ?_ | refine .v (.iK sl69 rfl rfl) ?_
          refine .v (.idxArrR ar73 rfl rfl (by omega)) ?_
          refine AK.storeAt 1 (cs' := ((y.2.2.2.2.set ((x.2.2.1.getD x.1 0) * 6 + y.1) fb).map (Value.int .i32))) rfl sz21 rfl rfl rfl rfl (by omega) (set_map6 (by omega) (by first | rfl | (rw [hfb, if_pos (by omega)]))) trivial ?_
          refine .nt hK57 (.exit (.then_exit (.block_exit ?_)))
          refine AK.then_ (hK50 _ ?_)
          refine AK.region ?_
          refine .v (.add rfl rfl (by omega)) ?_
          refine .mv rfl (.nil ?_)
          first | refine AK.then_ (hK47 _ _ ((y.1 + 1, y.2.1, y.2.2.1, y.2.2.2.1, y.2.2.2.2.set ((x.2.2.1.getD x.1 0) * 6 + y.1) fb)) ⟨hn1, sy, hSe, hiq, hag1⟩ (by dsimp only; omega) (slr) (fun w hw => hw)) | refine AK.then_ (hK47 _ _ ((y.1 + 1, vq2, y.2.2.1 ++ [t], y.2.2.2.1.set t fb, y.2.2.2.2)) ⟨hn2, svq2, hSe2, hiq2, hag2⟩ (by dsimp only; omega) (slr) (fun w hw => by dsimp only; rw [qz_snoc, List.map_append, List.length_append]; rw [ht] at hw; exact hw))
         ·obtain ⟨t, ht, htN, -⟩ : ∃ t : Nat, y.2.2.2.2.getD ((x.2.2.1.getD x.1 0) * 6 + y.1) 0 = (t : Int) ∧ t < N.length ∧ True := by
           rcases hE with ⟨t, h1, h2, _⟩ | ⟨_, h0⟩
           ·exact ⟨t, h1, h2, trivial⟩
           ·exact absurd h0 hc4
          have hn2 := hD1.some T hiq hy6 (t := t) (by rw [hSe]; exact ht) (fun e => hc4 (by rw [ht, e]; rfl))
          rw [hSe, ← hfb] at hn2
          have hSe2 : (y.2.2.1 ++ [t]).getD x.1 0 = (x.2.2.1.getD x.1 0) := by rw [getD_app_lt hiq]; exact hSe
          have hiq2 : x.1 < (y.2.2.1 ++ [t]).length := by rw [List.length_append]; omega
          have hag2 : ∀ z, y.1 + 1 ≤ z → z < 6 → x.2.2.2.2.1.getD ((x.2.2.1.getD x.1 0) * 6 + z) 0 = y.2.2.2.2.getD ((x.2.2.1.getD x.1 0) * 6 + z) 0 := fun z hz hz6 => hag z (by omega) hz6
          refine .skip ?_
          refine AK.then_ (hK55 _ ?_)
          refine .sr fun _ hK58 => ?_
          refine .mv rfl (.mv rfl (.mv rfl ?_))
          first | refine .v (.iN sl70 rfl rfl) ?_ | refine .v (.iK sl70 rfl rfl) ?_
          refine AK.store1e 3 rfl sz21 rfl rfl rfl rfl (by omega) (cs' := ((y.2.2.2.1.set t fb).map (Value.int .i32))) (by rw [List.map_set, ht]; first | rfl | (rw [hfb, if_pos (by omega)]; rfl)) trivial ?_
          refine .nt hK58 ?_
          refine AK.region ?_
          refine .mv rfl (.mv rfl ?_)
          refine AK.append1 4 rfl sl70 el21 rfl (by decide) rfl (by intro k hk; cases hk; rfl) rfl (by intro u hu; simp [Value.cells] at hu; subst hu; rfl) (by omega) (by omega) (by decide) rfl rfl (fun vq2 _ svq2 => ?_)
          refine .as rfl (.nil (.block_normal ?_))
          refine AK.then_ (hK50 _ ?_)
          refine AK.region ?_
          refine .v (.add rfl rfl (by omega)) ?_
          refine .mv rfl (.nil ?_)
          first | refine AK.then_ (hK47 _ _ ((y.1 + 1, y.2.1, y.2.2.1, y.2.2.2.1, y.2.2.2.2.set ((x.2.2.1.getD x.1 0) * 6 + y.1) fb)) ⟨hn1, sy, hSe, hiq, hag1⟩ (by dsimp only; omega) (slr) (fun w hw => hw)) | refine AK.then_ (hK47 _ _ ((y.1 + 1, vq2, y.2.2.1 ++ [t], y.2.2.2.1.set t fb, y.2.2.2.2)) ⟨hn2, svq2, hSe2, hiq2, hag2⟩ (by dsimp only; omega) (slr) (fun w hw => by dsimp only; rw [qz_snoc, List.map_append, List.length_append]; rw [ht] at hw; exact hw))
        ·refine .skip ?_
         refine AK.then_ (hK53 _ ?_)
         refine .seq fun _ hK59 => ?_
         refine .sr fun _ hK60 => ?_
         refine .mv rfl ?_
         refine .v (.eql rfl rfl) ?_
         refine .nt hK60 ?_
         refine AK.condD rfl (fun hc4 => ?_) (fun hc4 => ?_)
         ·have hn1 := hD1.none T hiq hy6 (by rw [hSe]; exact hc4)
          rw [hSe, ← hfb] at hn1
          have hag1 : ∀ z, y.1 + 1 ≤ z → z < 6 → x.2.2.2.2.1.getD ((x.2.2.1.getD x.1 0) * 6 + z) 0 = (y.2.2.2.2.set ((x.2.2.1.getD x.1 0) * 6 + y.1) fb).getD ((x.2.2.1.getD x.1 0) * 6 + z) 0 := fun z hz hz6 => by rw [Go.Sx.getD_set_ne (by omega)]; exact hag z (by omega) hz6
          refine .sr fun _ hK61 => ?_
          refine .mv rfl ?_
          refine .v (.nilCheck rfl) ?_
          refine .v (.fieldAddr fd72_0 rfl) ?_
          refine .v (.loadBox on69 rfl bsp rfl) ?_
          refine .mv rfl (.mv rfl (.mv rfl ?_))
          first | refine .v (.iN sl69 rfl rfl) ?_ | refine .v (.iK sl69 rfl rfl) ?_
          refine .v (.idxArrR ar73 rfl rfl (by omega)) ?_
          refine AK.storeAt 1 (cs' := ((y.2.2.2.2.set ((x.2.2.1.getD x.1 0) * 6 + y.1) fb).map (Value.int .i32))) rfl sz21 rfl rfl rfl rfl (by omega) (set_map6 (by omega) (by first | rfl | (rw [hfb, if_pos (by omega)]))) trivial ?_
          refine .nt hK61 (.exit (.then_exit (.block_exit ?_)))
          refine AK.then_ (hK50 _ ?_)
          refine AK.region ?_
          refine .v (.add rfl rfl (by omega)) ?_
          refine .mv rfl (.nil ?_)
          first | refine AK.then_ (hK47 _ _ ((y.1 + 1, y.2.1, y.2.2.1, y.2.2.2.1, y.2.2.2.2.set ((x.2.2.1.getD x.1 0) * 6 + y.1) fb)) ⟨hn1, sy, hSe, hiq, hag1⟩ (by dsimp only; omega) (slr) (fun w hw => hw)) | refine AK.then_ (hK47 _ _ ((y.1 + 1, vq2, y.2.2.1 ++ [t], y.2.2.2.1.set t fb, y.2.2.2.2)) ⟨hn2, svq2, hSe2, hiq2, hag2⟩ (by dsimp only; omega) (slr) (fun w hw => by dsimp only; rw [qz_snoc, List.map_append, List.length_append]; rw [ht] at hw; exact hw))
         ·obtain ⟨t, ht, htN, -⟩ : ∃ t : Nat, y.2.2.2.2.getD ((x.2.2.1.getD x.1 0) * 6 + y.1) 0 = (t : Int) ∧ t < N.length ∧ True := by
           rcases hE with ⟨t, h1, h2, _⟩ | ⟨_, h0⟩
           ·exact ⟨t, h1, h2, trivial⟩
           ·exact absurd h0 hc4
          have hn2 := hD1.some T hiq hy6 (t := t) (by rw [hSe]; exact ht) (fun e => hc4 (by rw [ht, e]; rfl))
          rw [hSe, ← hfb] at hn2
          have hSe2 : (y.2.2.1 ++ [t]).getD x.1 0 = (x.2.2.1.getD x.1 0) := by rw [getD_app_lt hiq]; exact hSe
          have hiq2 : x.1 < (y.2.2.1 ++ [t]).length := by rw [List.length_append]; omega
          have hag2 : ∀ z, y.1 + 1 ≤ z → z < 6 → x.2.2.2.2.1.getD ((x.2.2.1.getD x.1 0) * 6 + z) 0 = y.2.2.2.2.getD ((x.2.2.1.getD x.1 0) * 6 + z) 0 := fun z hz hz6 => hag z (by omega) hz6
          refine .skip ?_
          refine AK.then_ (hK59 _ ?_)
          refine .sr fun _ hK62 => ?_
          refine .mv rfl (.mv rfl (.mv rfl ?_))
          first | refine .v (.iN sl70 rfl rfl) ?_ | refine .v (.iK sl70 rfl rfl) ?_
          refine AK.store1e 3 rfl sz21 rfl rfl rfl rfl (by omega) (cs' := ((y.2.2.2.1.set t fb).map (Value.int .i32))) (by rw [List.map_set, ht]; first | rfl | (rw [hfb, if_pos (by omega)]; rfl)) trivial ?_
          refine .nt hK62 ?_
          refine AK.region ?_
          refine .mv rfl (.mv rfl ?_)
          refine AK.append1 4 rfl sl70 el21 rfl (by decide) rfl (by intro k hk; cases hk; rfl) rfl (by intro u hu; simp [Value.cells] at hu; subst hu; rfl) (by omega) (by omega) (by decide) rfl rfl (fun vq2 _ svq2 => ?_)
          refine .as rfl (.nil (.block_normal ?_))
          refine AK.then_ (hK50 _ ?_)
          refine AK.region ?_
          refine .v (.add rfl rfl (by omega)) ?_
          refine .mv rfl (.nil ?_)
          first | refine AK.then_ (hK47 _ _ ((y.1 + 1, y.2.1, y.2.2.1, y.2.2.2.1, y.2.2.2.2.set ((x.2.2.1.getD x.1 0) * 6 + y.1) fb)) ⟨hn1, sy, hSe, hiq, hag1⟩ (by dsimp only; omega) (slr) (fun w hw => hw)) | refine AK.then_ (hK47 _ _ ((y.1 + 1, vq2, y.2.2.1 ++ [t], y.2.2.2.1.set t fb, y.2.2.2.2)) ⟨hn2, svq2, hSe2, hiq2, hag2⟩ (by dsimp only; omega) (slr) (fun w hw => by dsimp only; rw [qz_snoc, List.map_append, List.length_append]; rw [ht] at hw; exact hw))
       ·refine .exit (.then_exit (.then_exit (.block_exit (.block_normal ?_))))
        refine AK.then_ (hK7 _ ?_)
        refine AK.region ?_
        refine .mv rfl ?_
        refine .v (.add rfl rfl (by omega)) ?_
        refine .as rfl (.nil ?_)
        refine AK.then_ (hK4 _ _ ((x.1 + 1, y.2.1, y.2.2.1, y.2.2.2.1, y.2.2.2.2, D)) ⟨Cmp.next T (by have hh := hD1; rw [show y.1 = 6 by have := hD1.x6; omega] at hh; exact hh), sy⟩ (by dsimp only; omega) (slr) (fun w hw => hw))
   ·have hg_7_2' := hg_7_2
    try simp only [bs] at hg_7_2'
    refine AK.pass rfl rfl (hg_7_2) rfl ?_
    refine AK.pass rfl rfl (hg_7_2) rfl ?_
    refine AK.pass rfl rfl (hg_7_2) rfl ?_
    refine AK.pass rfl rfl (hg_7_2) rfl ?_
    refine AK.pass rfl rfl (hg_7_2) rfl ?_
    refine AK.pass rfl rfl (hg_7_2) rfl ?_
    refine AK.pass rfl rfl (hg_7_2) rfl ?_
    refine AK.pass rfl rfl (hg_7_2) rfl ?_
    refine AK.pass rfl rfl (hg_7_2) rfl ?_
    refine AK.pass rfl rfl trivial rfl ?_
    refine AK.pass rfl rfl trivial rfl ?_
    refine AK.pass rfl rfl trivial rfl ?_
    refine AK.pass rfl rfl trivial rfl ?_
    refine AK.pass rfl rfl trivial rfl ?_
    refine AK.pass rfl rfl trivial rfl ?_
    refine AK.pass rfl rfl trivial rfl ?_
    refine AK.pass rfl rfl trivial rfl ?_
    refine AK.pass rfl rfl trivial rfl ?_
    refine AK.pass rfl rfl (hg_7_2) rfl ?_
    refine .v (.pickF rfl (hg_7_2) rfl) ?_
    refine .nt hK11 ?_
    refine AK.cond_f rfl (rfl) ?_
    rw [if_neg (by first | omega | simpa using hc1)] at hCf
    obtain ⟨D, hD⟩ : ∃ D : List Int, D = x.2.2.2.2.2 := ⟨_, rfl⟩
    have hCD := hCf
    rw [← hD] at hCD
    rw [← hD]
    refine .skip ?_
    refine AK.then_ (hK9 _ ?_)
    refine .sr fun _ hK63 => ?_
    refine .mv rfl ?_
    refine .v (.nilCheck rfl) ?_
    refine .v (.fieldAddr fd72_0 rfl) ?_
    refine .v (.loadBox on69 rfl bsp rfl) ?_
    refine .mv rfl ?_
    first | refine .v (.iN sl69 rfl rfl) ?_ | refine .v (.iK sl69 rfl rfl) ?_
    refine AK.val (av6 x.2.2.2.2.1 (x.2.2.1.getD x.1 0)) (Yl.loadG ag73 rfl rdp (by omega)) trivial rfl ?_
    refine .mv rfl (.nt hK63 (.block ?_))
    refine AK.loopK (X := Nat × Value × List Nat × List Int × List Int) [(0, _), (2, _), (4, _), (5, _), (73, _)] (fun y => [(3, y.2.1), (74, .int .i64 (y.1 : Int))]) (fun y => [box bf 72 2 [vn, vf], row vn 73 6 N.length (y.2.2.2.2.map (Value.int .i32)), row vf 21 1 N.length (D.map (Value.int .i32)), row mv 21 1 N.length (y.2.2.2.1.map (Value.int .i32)), row y.2.1 21 1 y.2.2.1.length ((qz y.2.2.1).map (Value.int .i32))]) (fun y => Cmp ps N f0 d0 x.1 y.1 (x.1 + 1) y.2.2.1 y.2.2.2.1 y.2.2.2.2 D ∧ IsSl y.2.1 ∧ y.2.2.1.getD x.1 0 = (x.2.2.1.getD x.1 0) ∧ x.1 < y.2.2.1.length ∧ ∀ z, y.1 ≤ z → z < 6 → x.2.2.2.2.1.getD ((x.2.2.1.getD x.1 0) * 6 + z) 0 = y.2.2.2.2.getD ((x.2.2.1.getD x.1 0) * 6 + z) 0) (fun y => 6 - y.1) ((0, x.2.1, x.2.2.1, x.2.2.2.1, x.2.2.2.2.1)) slr ?_ ?_ ?_ ?_
    ·exact ⟨hCD, sq, rfl, hi, fun _ _ _ => rfl⟩
    ·exact slr
    ·exact fun w hw => hw
    ·intro y hg1 _ hK64
     obtain ⟨hD1, sy, hSe, hiq, hag⟩ := hg1
     have hqle2 := hD1.qle T
     have hfl2 := hD1.fll
     have hsh2 := hD1.shl
     refine .sr fun _ hK65 => ?_
     refine .v (.lss rfl rfl) ?_
     refine .nt hK65 ?_
     refine .seq fun _ hK66 => ?_
     refine AK.condD rfl (fun hc2 => ?_) (fun hc2 => ?_)
     ·have hy6 : y.1 < 6 := by omega
      obtain ⟨r2, hr2, hr2N⟩ := hD1.shB T hiq
      rw [hSe] at hr2
      obtain ⟨fb, hfb⟩ : ∃ fb : Int, fb = (if (x.2.2.1.getD x.1 0) = 0 then 0 else y.2.2.2.2.getD ((y.2.2.2.1.getD (x.2.2.1.getD x.1 0) 0).toNat * 6 + y.1) 0) := ⟨_, rfl⟩
      have hE := hD1.entry T hiq hy6
      rw [hSe] at hE
      refine .skip ?_
      refine AK.then_ (hK66 _ ?_)
      refine .seq fun _ hK67 => ?_
      refine .block ?_
      refine .sr fun _ hK68 => ?_
      refine .mv rfl ?_
      refine AK.val (.int .i32 (y.2.2.2.2.getD ((x.2.2.1.getD x.1 0) * 6 + y.1) 0)) (Yl.idxAgg ar73 (by kernel_rfl) rfl rfl (by omega) (by rw [← hag y.1 (Nat.le_refl _) (by omega)]; exact av6_get (by omega) (by rw [hC.fll]; omega))) trivial rfl ?_
      refine .as rfl (.as rfl (.nt hK68 ?_))
      refine .sr fun _ hK69 => ?_
      refine .as rfl (.nt hK69 ?_)
      refine .seq fun _ hK70 => ?_
      refine .sr fun _ hK71 => ?_
      refine .mv rfl ?_
      refine .v (.neq rfl rfl) ?_
      refine .nt hK71 ?_
      refine AK.condNe rfl (fun hc3 => ?_) (fun hc3 => ?_)
      ·refine AK.quiet mixed krf ?_
       refine .mv rfl ?_
       refine .v (.nilCheck rfl) ?_
       refine .v (.fieldAddr fd72_0 rfl) ?_
       refine .v (.loadBox on69 rfl bsp rfl) ?_
       refine .mv rfl (.mv rfl ?_)
       first | refine .v (.iN sl70 rfl rfl) ?_ | refine .v (.iK sl70 rfl rfl) ?_
       refine QK.val (.int .i32 (r2 : Int)) (Yl.valE (Yl.loadI on21 rfl rdp (by rw [hsh2]; omega)) (congrArg (Value.int .i32) hr2)) trivial rfl ?_
       refine .mv rfl ?_
       first | refine .v (.iN sl69 rfl rfl) ?_ | refine .v (.iK sl69 rfl rfl) ?_
       refine .v (.idxArrR ar73 rfl rfl (by omega)) ?_
       refine QK.val (.int .i32 fb) (Yl.loadAt on21 rfl rdp (by rw [hfb, if_neg (by omega), hr2]; exact at6 (by omega) (by omega))) trivial rfl ?_
       refine .as rfl ?_
       refine QK.nil (QK.fin ?_)
       refine AK.then_ (hK70 _ ?_)
       refine .seq fun _ hK72 => ?_
       refine .sr fun _ hK73 => ?_
       refine .mv rfl ?_
       refine .v (.eql rfl rfl) ?_
       refine .nt hK73 ?_
       refine AK.condD rfl (fun hc4 => ?_) (fun hc4 => ?_)
       ·have hn1 := hD1.none T hiq hy6 (by rw [hSe]; exact hc4)
        rw [hSe, ← hfb] at hn1
        have hag1 : ∀ z, y.1 + 1 ≤ z → z < 6 → x.2.2.2.2.1.getD ((x.2.2.1.getD x.1 0) * 6 + z) 0 = (y.2.2.2.2.set ((x.2.2.1.getD x.1 0) * 6 + y.1) fb).getD ((x.2.2.1.getD x.1 0) * 6 + z) 0 := fun z hz hz6 => by rw [Go.Sx.getD_set_ne (by omega)]; exact hag z (by omega) hz6
        refine .sr fun _ hK74 => ?_
        refine .mv rfl ?_
        refine .v (.nilCheck rfl) ?_
        refine .v (.fieldAddr fd72_0 rfl) ?_
        refine .v (.loadBox on69 rfl bsp rfl) ?_
        refine .mv rfl (.mv rfl (.mv rfl ?_))
        first | refine .v (.iN sl69 rfl rfl) ?_ | refine .v (.iK sl69 rfl rfl) ?_
        refine .v (.idxArrR ar73 rfl rfl (by omega)) ?_
        refine AK.storeAt 1 (cs' := ((y.2.2.2.2.set ((x.2.2.1.getD x.1 0) * 6 + y.1) fb).map (Value.int .i32))) rfl sz21 rfl rfl rfl rfl (by omega) (set_map6 (by omega) (by first | rfl | (rw [hfb, if_pos (by omega)]))) trivial ?_
        refine .nt hK74 (.exit (.then_exit (.block_exit ?_)))
        refine AK.then_ (hK67 _ ?_)
        refine AK.region ?_
        refine .v (.add rfl rfl (by omega)) ?_
        refine .mv rfl (.nil ?_)
        first | refine AK.then_ (hK64 _ _ ((y.1 + 1, y.2.1, y.2.2.1, y.2.2.2.1, y.2.2.2.2.set ((x.2.2.1.getD x.1 0) * 6 + y.1) fb)) ⟨hn1, sy, hSe, hiq, hag1⟩ (by dsimp only; omega) (slr) (fun w hw => hw)) | refine AK.then_ (hK64 _ _ ((y.1 + 1, vq2, y.2.2.1 ++ [t], y.2.2.2.1.set t fb, y.2.2.2.2)) ⟨hn2, svq2, hSe2, hiq2, hag2⟩ (by dsimp only; omega) (slr) (fun w hw => by dsimp only; rw [qz_snoc, List.map_append, List.length_append]; rw [ht] at hw; exact hw))
       ·obtain ⟨t, ht, htN, -⟩ : ∃ t : Nat, y.2.2.2.2.getD ((x.2.2.1.getD x.1 0) * 6 + y.1) 0 = (t : Int) ∧ t < N.length ∧ True := by
         rcases hE with ⟨t, h1, h2, _⟩ | ⟨_, h0⟩
         ·exact ⟨t, h1, h2, trivial⟩
         ·exact absurd h0 hc4
        have hn2 := hD1.some T hiq hy6 (t := t) (by rw [hSe]; exact ht) (fun e => hc4 (by rw [ht, e]; rfl))
        rw [hSe, ← hfb] at hn2
        have hSe2 : (y.2.2.1 ++ [t]).getD x.1 0 = (x.2.2.1.getD x.1 0) := by rw [getD_app_lt hiq]; exact hSe
        have hiq2 : x.1 < (y.2.2.1 ++ [t]).length := by rw [List.length_append]; omega
        have hag2 : ∀ z, y.1 + 1 ≤ z → z < 6 → x.2.2.2.2.1.getD ((x.2.2.1.getD x.1 0) * 6 + z) 0 = y.2.2.2.2.getD ((x.2.2.1.getD x.1 0) * 6 + z) 0 := fun z hz hz6 => hag z (by omega) hz6
        refine .skip ?_
        refine AK.then_ (hK72 _ ?_)
        refine .sr fun _ hK75 => ?_
        refine .mv rfl (.mv rfl (.mv rfl ?_))
        first | refine .v (.iN sl70 rfl rfl) ?_ | refine .v (.iK sl70 rfl rfl) ?_
        refine AK.store1e 3 rfl sz21 rfl rfl rfl rfl (by omega) (cs' := ((y.2.2.2.1.set t fb).map (Value.int .i32))) (by rw [List.map_set, ht]; first | rfl | (rw [hfb, if_pos (by omega)]; rfl)) trivial ?_
        refine .nt hK75 ?_
        refine AK.region ?_
        refine .mv rfl (.mv rfl ?_)
        refine AK.append1 4 rfl sl70 el21 rfl (by decide) rfl (by intro k hk; cases hk; rfl) rfl (by intro u hu; simp [Value.cells] at hu; subst hu; rfl) (by omega) (by omega) (by decide) rfl rfl (fun vq2 _ svq2 => ?_)
        refine .as rfl (.nil (.block_normal ?_))
        refine AK.then_ (hK67 _ ?_)
        refine AK.region ?_
        refine .v (.add rfl rfl (by omega)) ?_
        refine .mv rfl (.nil ?_)
        first | refine AK.then_ (hK64 _ _ ((y.1 + 1, y.2.1, y.2.2.1, y.2.2.2.1, y.2.2.2.2.set ((x.2.2.1.getD x.1 0) * 6 + y.1) fb)) ⟨hn1, sy, hSe, hiq, hag1⟩ (by dsimp only; omega) (slr) (fun w hw => hw)) | refine AK.then_ (hK64 _ _ ((y.1 + 1, vq2, y.2.2.1 ++ [t], y.2.2.2.1.set t fb, y.2.2.2.2)) ⟨hn2, svq2, hSe2, hiq2, hag2⟩ (by dsimp only; omega) (slr) (fun w hw => by dsimp only; rw [qz_snoc, List.map_append, List.length_append]; rw [ht] at hw; exact hw))
      ·refine .skip ?_
       refine AK.then_ (hK70 _ ?_)
       refine .seq fun _ hK76 => ?_
       refine .sr fun _ hK77 => ?_
       refine .mv rfl ?_
       refine .v (.eql rfl rfl) ?_
       refine .nt hK77 ?_
       refine AK.condD rfl (fun hc4 => ?_) (fun hc4 => ?_)
       ·have hn1 := hD1.none T hiq hy6 (by rw [hSe]; exact hc4)
        rw [hSe, ← hfb] at hn1
        have hag1 : ∀ z, y.1 + 1 ≤ z → z < 6 → x.2.2.2.2.1.getD ((x.2.2.1.getD x.1 0) * 6 + z) 0 = (y.2.2.2.2.set ((x.2.2.1.getD x.1 0) * 6 + y.1) fb).getD ((x.2.2.1.getD x.1 0) * 6 + z) 0 := fun z hz hz6 => by rw [Go.Sx.getD_set_ne (by omega)]; exact hag z (by omega) hz6
        refine .sr fun _ hK78 => ?_
        refine .mv rfl ?_
        refine .v (.nilCheck rfl) ?_
        refine .v (.fieldAddr fd72_0 rfl) ?_
        refine .v (.loadBox on69 rfl bsp rfl) ?_
        refine .mv rfl (.mv rfl (.mv rfl ?_))
        first | refine .v (.iN sl69 rfl rfl) ?_ | refine .v (.iK sl69 rfl rfl) ?_
        refine .v (.idxArrR ar73 rfl rfl (by omega)) ?_
        refine AK.storeAt 1 (cs' := ((y.2.2.2.2.set ((x.2.2.1.getD x.1 0) * 6 + y.1) fb).map (Value.int .i32))) rfl sz21 rfl rfl rfl rfl (by omega) (set_map6 (by omega) (by first | rfl | (rw [hfb, if_pos (by omega)]))) trivial ?_
        refine .nt hK78 (.exit (.then_exit (.block_exit ?_)))
        refine AK.then_ (hK67 _ ?_)
        refine AK.region ?_
        refine .v (.add rfl rfl (by omega)) ?_
        refine .mv rfl (.nil ?_)
        first | refine AK.then_ (hK64 _ _ ((y.1 + 1, y.2.1, y.2.2.1, y.2.2.2.1, y.2.2.2.2.set ((x.2.2.1.getD x.1 0) * 6 + y.1) fb)) ⟨hn1, sy, hSe, hiq, hag1⟩ (by dsimp only; omega) (slr) (fun w hw => hw)) | refine AK.then_ (hK64 _ _ ((y.1 + 1, vq2, y.2.2.1 ++ [t], y.2.2.2.1.set t fb, y.2.2.2.2)) ⟨hn2, svq2, hSe2, hiq2, hag2⟩ (by dsimp only; omega) (slr) (fun w hw => by dsimp only; rw [qz_snoc, List.map_append, List.length_append]; rw [ht] at hw; exact hw))
       ·obtain ⟨t, ht, htN, -⟩ : ∃ t : Nat, y.2.2.2.2.getD ((x.2.2.1.getD x.1 0) * 6 + y.1) 0 = (t : Int) ∧ t < N.length ∧ True := by
         rcases hE with ⟨t, h1, h2, _⟩ | ⟨_, h0⟩
         ·exact ⟨t, h1, h2, trivial⟩
         ·exact absurd h0 hc4
        have hn2 := hD1.some T hiq hy6 (t := t) (by rw [hSe]; exact ht) (fun e => hc4 (by rw [ht, e]; rfl))
        rw [hSe, ← hfb] at hn2
        have hSe2 : (y.2.2.1 ++ [t]).getD x.1 0 = (x.2.2.1.getD x.1 0) := by rw [getD_app_lt hiq]; exact hSe
        have hiq2 : x.1 < (y.2.2.1 ++ [t]).length := by rw [List.length_append]; omega
        have hag2 : ∀ z, y.1 + 1 ≤ z → z < 6 → x.2.2.2.2.1.getD ((x.2.2.1.getD x.1 0) * 6 + z) 0 = y.2.2.2.2.getD ((x.2.2.1.getD x.1 0) * 6 + z) 0 := fun z hz hz6 => hag z (by omega) hz6
        refine .skip ?_
        refine AK.then_ (hK76 _ ?_)
        refine .sr fun _ hK79 => ?_
        refine .mv rfl (.mv rfl (.mv rfl ?_))
        first | refine .v (.iN sl70 rfl rfl) ?_ | refine .v (.iK sl70 rfl rfl) ?_
        refine AK.store1e 3 rfl sz21 rfl rfl rfl rfl (by omega) (cs' := ((y.2.2.2.1.set t fb).map (Value.int .i32))) (by rw [List.map_set, ht]; first | rfl | (rw [hfb, if_pos (by omega)]; rfl)) trivial ?_
        refine .nt hK79 ?_
        refine AK.region ?_
        refine .mv rfl (.mv rfl ?_)
        refine AK.append1 4 rfl sl70 el21 rfl (by decide) rfl (by intro k hk; cases hk; rfl) rfl (by intro u hu; simp [Value.cells] at hu; subst hu; rfl) (by omega) (by omega) (by decide) rfl rfl (fun vq2 _ svq2 => ?_)
        refine .as rfl (.nil (.block_normal ?_))
        refine AK.then_ (hK67 _ ?_)
        refine AK.region ?_
        refine .v (.add rfl rfl (by omega)) ?_
        refine .mv rfl (.nil ?_)
        first | refine AK.then_ (hK64 _ _ ((y.1 + 1, y.2.1, y.2.2.1, y.2.2.2.1, y.2.2.2.2.set ((x.2.2.1.getD x.1 0) * 6 + y.1) fb)) ⟨hn1, sy, hSe, hiq, hag1⟩ (by dsimp only; omega) (slr) (fun w hw => hw)) | refine AK.then_ (hK64 _ _ ((y.1 + 1, vq2, y.2.2.1 ++ [t], y.2.2.2.1.set t fb, y.2.2.2.2)) ⟨hn2, svq2, hSe2, hiq2, hag2⟩ (by dsimp only; omega) (slr) (fun w hw => by dsimp only; rw [qz_snoc, List.map_append, List.length_append]; rw [ht] at hw; exact hw))
     ·refine .exit (.then_exit (.then_exit (.block_exit (.block_normal ?_))))
      refine AK.then_ (hK7 _ ?_)
      refine AK.region ?_
      refine .mv rfl ?_
      refine .v (.add rfl rfl (by omega)) ?_
      refine .as rfl (.nil ?_)
      refine AK.then_ (hK4 _ _ ((x.1 + 1, y.2.1, y.2.2.1, y.2.2.2.1, y.2.2.2.2, D)) ⟨Cmp.next T (by have hh := hD1; rw [show y.1 = 6 by have := hD1.x6; omega] at hh; exact hh), sy⟩ (by dsimp only; omega) (slr) (fun w hw => hw))
  ·refine .exit (.then_exit (.then_exit (.block_exit ?_)))
   refine AK.endG [] rfl (.nil) (fun w hw => ⟨_, _, _, ?_, rfl, Ret.ofBig0 (hw.pick [0, 1, 2] (by decide) rfl rfl)⟩)
   exact ⟨x.2.2.2.2.1, x.2.2.2.2.2, Cmp.done T hC (by have := hC.le; omega), rfl, rfl, rfl⟩

end Go.Proofs.Ytaeojcaidcjnaaa
