import Derived.Test.YtaeojcaidcjnaaaXW2
import Derived.Test.YtaeojcaidcjnaaaXRR
set_option linter.unusedVariables false
set_option linter.unusedSimpArgs false
namespace Go.Proofs.Ytaeojcaidcjnaaa
open Go.Sx Go.RowKit
set_option maxHeartbeats 4000000 in
set_option maxRecDepth 100000 in
theorem s_newfinder (w : World) (v : Value) (ps : List Wrd) (h : RdL (fun _ => False) sv w v ps) (hps : ∀ k, k < ps.length → Al (ps.getD k [])) (hn0 : ps.length ≤ 2000) : CallS Try.prog 42 [v] w (fun r o => ∃ (bf : Nat) (vn vf : Value) (N : List Wrd) (fl fd : List Int), FinOK ps N fl fd ∧ N.length ≤ 4200000 ∧ N.length ≤ 1 + tot ps ps.length ∧ r = .pointer (some ⟨bf, 0, none⟩) ∧ o = [box bf 72 2 [vn, vf], row vn 73 6 N.length (fl.map (Value.int .i32)), row vf 21 1 N.length (fd.map (Value.int .i32))]) := by
 have hb := h.le
 unfold RdL at h
 refine spec_of Try.func42 rfl (Nat.le_of_ble_eq_true rfl) ?_
 refine .sr fun _ hK1 => ?_
 refine .as rfl (.nt hK1 ?_)
 refine .sr fun _ hK2 => ?_
 refine AK.make (n := 1) sl69 el73 rfl rfl (by decide) (by decide) trivial rfl (fun vn => ?_)
 rw [show ((madeCells (Value.agg #[.int .i32 0, .int .i32 0, .int .i32 0, .int .i32 0, .int .i32 0, .int .i32 0]).cells (1 * 6)).toList) = (List.replicate 6 (0 : Int)).map (Value.int .i32) from made6]
 refine AK.shape 0 rfl (fun svn => ?_)
 refine AK.lit (xs := [.const (.int .i32 (-1))]) sl70 el21 rfl rfl rfl (by intro a ha; simp at ha; subst ha; rfl) (by decide) (by decide) trivial rfl (fun vf => ?_)
 refine AK.shape 1 rfl (fun svf => ?_)
 refine .v (.build (parts := [(0, .tmp 9), (1, .tmp 10)]) (cs := #[vn, vf]) rfl (by obtain ⟨_, _, _, rfl⟩ := svn; obtain ⟨_, _, _, rfl⟩ := svf; kernel_rfl)) ?_
 refine AK.box_ (E := 72) (cs := [vn, vf]) rfl rfl rfl trivial rfl (fun bx12 => ?_)
 refine .as rfl (.nt hK2 ?_)
 refine .seq fun _ hK3 => ?_
 refine .sr fun _ hK4 => ?_
 refine .mv rfl ?_
 refine .v (.lenR sl53 rfl rdp) ?_
 refine .mv rfl (.nt hK4 (.block ?_))
 refine AK.loopK (X := Nat × Value × Value × List Wrd × List Int × List Int) [(3, _), (13, _), (14, _)] (fun x => [(15, .int .i64 (x.1 : Int))]) (fun x => [row x.2.1 73 6 x.2.2.2.1.length (x.2.2.2.2.1.map (Value.int .i32)), row x.2.2.1 21 1 x.2.2.2.1.length (x.2.2.2.2.2.map (Value.int .i32)), box bx12 72 2 [x.2.1, x.2.2.1]]) (fun x => Trie ps x.1 x.2.2.2.1 x.2.2.2.2.1 x.2.2.2.2.2 ∧ IsSl x.2.1 ∧ IsSl x.2.2.1 ∧ x.2.2.2.1.length ≤ 1 + tot ps x.1 ∧ x.1 ≤ ps.length) (fun x => ps.length - x.1) ((0, vn, vf, [[]], List.replicate 6 0, [-1])) slr ?_ ?_ ?_ ?_
 ·exact ⟨trie0 ps, svn, svf, Nat.le_add_right 1 _, Nat.zero_le _⟩
 ·exact slr
 ·exact fun w hw => hw
 ·intro x hg0 _ hK5
  obtain ⟨hT, sa, sb, hNl, hxl⟩ := hg0
  have htb := tot_le hps x.1 hxl
  have hts : tot ps (x.1 + 1) = tot ps x.1 + (ps.getD x.1 []).length := rfl
  refine .sr fun _ hK6 => ?_
  refine .v (.lss rfl rfl) ?_
  refine .nt hK6 ?_
  refine .seq fun _ hK7 => ?_
  refine AK.condD rfl (fun hc0 => ?_) (fun hc0 => ?_)
  ·have hAl := hps x.1 (by omega)
   have hpl := hAl.1
   refine .skip ?_
   refine AK.then_ (hK7 _ ?_)
   refine .seq fun _ hK8 => ?_
   refine .block ?_
   refine .sr fun _ hK9 => ?_
   refine .mv rfl ?_
   first | refine .v (.iN sl53 rfl rfl) ?_ | refine .v (.iK sl53 rfl rfl) ?_
   refine .v (.loadS on9 rfl rdp (by omega)) ?_
   refine .as rfl (.as rfl (.nt hK9 ?_))
   refine .seq fun _ hK10 => ?_
   refine .sr fun _ hK11 => ?_
   refine .mv rfl ?_
   refine .v (.eqlS un9 rfl rfl) ?_
   refine .nt hK11 ?_
   refine AK.condD rfl (fun hc1 => ?_) (fun hc1 => ?_)
   ·refine .exit (.then_exit (.block_exit ?_))
    refine AK.then_ (hK8 _ ?_)
    refine AK.region ?_
    refine .v (.add rfl rfl (by omega)) ?_
    refine .mv rfl (.nil ?_)
    first | refine AK.then_ (hK5 _ _ ((x.1 + 1, x.2.1, x.2.2.1, x.2.2.2.1, x.2.2.2.2.1, x.2.2.2.2.2)) ⟨hT.skip hc1, sa, sb, by dsimp only; omega, by dsimp only; omega⟩ (by dsimp only; omega) (slr) (fun w hw => hw)) | refine AK.then_ (hK5 _ _ ((x.1 + 1, y.2.2.1, y.2.2.2.1, y.2.2.2.2.1, y.2.2.2.2.2.1, y.2.2.2.2.2.2.set y.2.1 (x.1 : Int))) ⟨hM1, ta, tb, by dsimp only; omega, by dsimp only; omega⟩ (by dsimp only; omega) (slr) (fun w hw => hw)) | refine AK.then_ (hK5 _ _ ((x.1 + 1, y.2.2.1, y.2.2.2.1, y.2.2.2.2.1, y.2.2.2.2.2.1, y.2.2.2.2.2.2)) ⟨hM0, ta, tb, by dsimp only; omega, by dsimp only; omega⟩ (by dsimp only; omega) (slr) (fun w hw => hw))
   ·refine .skip ?_
    refine AK.then_ (hK10 _ ?_)
    refine .sr fun _ hK12 => ?_
    refine .as rfl (.nt hK12 ?_)
    refine .seq fun _ hK13 => ?_
    refine .sr fun _ hK14 => ?_
    refine .mv rfl ?_
    refine .v (.lenS un9 rfl) ?_
    refine .mv rfl (.nt hK14 (.block ?_))
    refine AK.loopK (X := Nat × Nat × Value × Value × List Wrd × List Int × List Int) [(3, _), (4, _), (5, _), (13, _), (14, _), (15, _), (23, _)] (fun y => [(24, .int .i64 (y.1 : Int)), (6, .int .i32 (y.2.1 : Int))]) (fun y => [row y.2.2.1 73 6 y.2.2.2.2.1.length (y.2.2.2.2.2.1.map (Value.int .i32)), row y.2.2.2.1 21 1 y.2.2.2.2.1.length (y.2.2.2.2.2.2.map (Value.int .i32)), box bx12 72 2 [y.2.2.1, y.2.2.2.1]]) (fun y => Trie ps x.1 y.2.2.2.2.1 y.2.2.2.2.2.1 y.2.2.2.2.2.2 ∧ IsSl y.2.2.1 ∧ IsSl y.2.2.2.1 ∧ y.2.2.2.2.1.length ≤ 1 + tot ps x.1 + y.1 ∧ y.1 ≤ (ps.getD x.1 []).length ∧ y.2.1 < y.2.2.2.2.1.length ∧ y.2.2.2.2.1.getD y.2.1 [] = (ps.getD x.1 []).take y.1) (fun y => (ps.getD x.1 []).length - y.1) ((0, 0, x.2.1, x.2.2.1, x.2.2.2.1, x.2.2.2.2.1, x.2.2.2.2.2)) slr ?_ ?_ ?_ ?_
    ·exact ⟨hT, sa, sb, by dsimp only; omega, Nat.zero_le _, hT.z.1, by dsimp only; rw [hT.z.2]; rfl⟩
    ·exact slr
    ·exact fun w hw => hw
    ·intro y hg1 _ hK15
     obtain ⟨hU, ta, tb, hMl, hyl, hsl, hst⟩ := hg1
     have hfl := hU.fll
     have hfd := hU.fdl
     refine .sr fun _ hK16 => ?_
     refine .v (.lss rfl rfl) ?_
     refine .nt hK16 ?_
     refine .seq fun _ hK17 => ?_
     refine AK.condD rfl (fun hc2 => ?_) (fun hc2 => ?_)
     ·obtain ⟨c, hc6, hcl, hcn⟩ := ltr_of (hAl.2 y.1 (by omega))
      refine .skip ?_
      refine AK.then_ (hK17 _ ?_)
      refine .seq fun _ hK18 => ?_
      refine .block ?_
      refine .sr fun _ hK19 => ?_
      refine .mv rfl (.as rfl (.nt hK19 ?_))
      refine .sr fun _ hK20 => ?_
      refine .mv rfl (.mv rfl ?_)
      first | refine .v (.idxSN un9 rfl rfl (by omega)) ?_ | refine .v (.idxS un9 rfl rfl (by omega)) ?_
      refine AK.val (.int .u8 (c : Int)) (Yl.valE (Yl.subU8 rfl rfl (by rw [hcn]; omega)) (congrArg (Value.int .u8) hcn)) trivial rfl ?_
      refine .as rfl (.nt hK20 ?_)
      refine .seq fun _ hK21 => ?_
      refine .sr fun _ hK22 => ?_
      refine .mv rfl ?_
      refine .v (.nilCheck rfl) ?_
      refine .v (.fieldAddr fd72_0 rfl) ?_
      refine .v (.loadBox on69 rfl bsp rfl) ?_
      refine .mv rfl (.mv rfl ?_)
      first | refine .v (.iN sl69 rfl rfl) ?_ | refine .v (.iK sl69 rfl rfl) ?_
      refine .v (.idxArrR ar73 rfl rfl (by omega)) ?_
      refine AK.val (.int .i32 (y.2.2.2.2.2.1.getD (y.2.1 * 6 + c) 0)) (Yl.loadAt on21 rfl rdp (at6 (by omega) (by omega))) trivial rfl ?_
      refine .v (.eql rfl rfl) ?_
      refine .nt hK22 ?_
      refine AK.condD rfl (fun hc3 => ?_) (fun hc3 => ?_)
      ·have hA1 := hU.add hsl hc6 hc3
       refine .seq fun _ hK23 => ?_
       refine AK.stillTail 14 mixed krf (fun _ hws => ?_)
       refine .v hws (.move rfl) ?_
       refine .v hws (.nilCheck rfl) ?_
       refine .v hws (.fieldAddr fd72_0 rfl) ?_
       refine .v hws (.loadBox on69 rfl bsp rfl) ?_
       refine .v hws (.move rfl) ?_
       refine .v hws (.move rfl) ?_
       refine .v hws (.move rfl) ?_
       refine .v hws (.nilCheck rfl) ?_
       refine .v hws (.fieldAddr fd72_0 rfl) ?_
       refine .v hws (.loadBox on69 rfl bsp rfl) ?_
       refine .v hws (.lenR sl69 rfl rdp) ?_
       refine .v hws (.convI (by kernel_rfl) un21 rfl (wrap_i32w (by omega))) ?_
       first | refine .v hws (.iN sl69 rfl rfl) ?_ | refine .v hws (.iK sl69 rfl rfl) ?_
       refine .v hws (.idxArrR ar73 rfl rfl (by omega)) ?_
       refine SK.nil (SK.fin hws ?_)
       refine AK.storeAt 0 (cs' := ((y.2.2.2.2.2.1.set (y.2.1 * 6 + c) (y.2.2.2.2.1.length : Int)).map (Value.int .i32))) rfl sz21 rfl rfl rfl rfl (by omega) (set_map6 (by omega) rfl) trivial ?_
       refine .nt hK23 ?_
       refine .sr fun _ hK24 => ?_
       refine .mv rfl (.mv rfl ?_)
       refine .v (.nilCheck rfl) ?_
       refine .v (.fieldAddr fd72_0 rfl) ?_
       refine .v (.loadBox on69 rfl bsp rfl) ?_
       refine .v (.build (parts := []) (cs := #[.int .i32 0, .int .i32 0, .int .i32 0, .int .i32 0, .int .i32 0, .int .i32 0]) rfl (by kernel_rfl)) ?_
       refine AK.append1 0 rfl sl69 el73 rfl (by decide) rfl (by intro k hk; cases hk; rfl) rfl z6_one (by omega) (by omega) (by decide) rfl rfl (fun va2 _ sva2 => ?_)
       refine .v (.nilCheck rfl) ?_
       refine .v (.fieldAddr fd72_0 rfl) ?_
       refine AK.storeBox 2 (us := [va2]) (cs' := [va2, y.2.2.2.1]) rfl sz69 rfl rfl (by rw [IsSl.cells (by assumption)]) rfl oneP (Nat.le_of_ble_eq_true rfl) rfl trivial ?_
       refine .nt hK24 ?_
       refine AK.region ?_
       refine .mv rfl (.mv rfl ?_)
       refine .v (.nilCheck rfl) ?_
       refine .v (.fieldAddr fd72_1 rfl) ?_
       refine .v (.loadBox on70 rfl bsp rfl) ?_
       refine AK.append1 1 rfl sl70 el21 rfl (by decide) rfl (by intro k hk; cases hk; rfl) rfl (by intro u hu; simp [Value.cells] at hu; subst hu; rfl) (by omega) (by omega) (by decide) rfl rfl (fun vb2 _ svb2 => ?_)
       refine .v (.nilCheck rfl) ?_
       refine .v (.fieldAddr fd72_1 rfl) ?_
       refine AK.storeBox 2 (us := [vb2]) (cs' := [va2, vb2]) rfl sz70 rfl rfl (by rw [IsSl.cells (by assumption)]) rfl oneP (Nat.le_of_ble_eq_true rfl) rfl trivial ?_
       refine .nt hK21 ?_
       refine AK.region ?_
       refine .mv rfl ?_
       refine .v (.nilCheck rfl) ?_
       refine .v (.fieldAddr fd72_0 rfl) ?_
       refine .v (.loadBox on69 rfl bsp rfl) ?_
       refine .mv rfl (.mv rfl ?_)
       first | refine .v (.iN sl69 rfl rfl) ?_ | refine .v (.iK sl69 rfl rfl) ?_
       refine .v (.idxArrR ar73 rfl rfl (by omega)) ?_
       refine AK.val (.int .i32 (y.2.2.2.2.1.length : Int)) (Yl.loadAt on21 rfl rdp (at6s (by omega) (by omega))) trivial rfl ?_
       refine .as rfl (.nil (.block_normal ?_))
       refine AK.then_ (hK18 _ ?_)
       refine AK.region ?_
       refine .v (.add rfl rfl (by omega)) ?_
       refine .mv rfl (.nil ?_)
       first | refine AK.then_ (hK15 _ _ ((y.1 + 1, y.2.2.2.2.1.length, va2, vb2, y.2.2.2.2.1 ++ [y.2.2.2.2.1.getD y.2.1 [] ++ [ltr c]], y.2.2.2.2.2.1.set (y.2.1 * 6 + c) (y.2.2.2.2.1.length : Int) ++ List.replicate 6 0, y.2.2.2.2.2.2 ++ [-1])) ⟨hA1, sva2, svb2, by dsimp only; rw [List.length_append]; simp; omega, by dsimp only; omega, by dsimp only; rw [List.length_append]; simp, by dsimp only; rw [getD_app_ge (Nat.le_refl _), take_ltr (by omega) hcl, ← hst]; simp⟩ (by dsimp only; omega) (slr) (fun w hw => by dsimp only; simp only [List.map_append, List.length_append]; exact hw)) | refine AK.then_ (hK15 _ _ ((y.1 + 1, t, y.2.2.1, y.2.2.2.1, y.2.2.2.2.1, y.2.2.2.2.2.1, y.2.2.2.2.2.2)) ⟨hU, ta, tb, by dsimp only; omega, by dsimp only; omega, htl, by dsimp only; rw [hte, take_ltr (by omega) hcl, hst]⟩ (by dsimp only; omega) (slr) (fun w hw => hw))
      ·obtain ⟨t, ht, htl, hte⟩ : ∃ t : Nat, y.2.2.2.2.2.1.getD (y.2.1 * 6 + c) 0 = (t : Int) ∧ t < y.2.2.2.2.1.length ∧ y.2.2.2.2.1.getD t [] = y.2.2.2.2.1.getD y.2.1 [] ++ [ltr c] := by
        rcases hU.tr y.2.1 hsl c hc6 with ⟨t, h1, h2, h3⟩ | ⟨_, h0⟩
        ·exact ⟨t, h1, h2, h3⟩
        ·exact absurd h0 hc3
       refine .skip ?_
       refine AK.then_ (hK21 _ ?_)
       refine AK.region ?_
       refine .mv rfl ?_
       refine .v (.nilCheck rfl) ?_
       refine .v (.fieldAddr fd72_0 rfl) ?_
       refine .v (.loadBox on69 rfl bsp rfl) ?_
       refine .mv rfl (.mv rfl ?_)
       first | refine .v (.iN sl69 rfl rfl) ?_ | refine .v (.iK sl69 rfl rfl) ?_
       refine .v (.idxArrR ar73 rfl rfl (by omega)) ?_
       refine AK.val (.int .i32 (t : Int)) (Yl.valE (Yl.loadAt on21 rfl rdp (at6 (p := (y.2.1 * 6 + c)) (by omega) (by omega))) (congrArg (Value.int .i32) ht)) trivial rfl ?_
       refine .as rfl (.nil (.block_normal ?_))
       refine AK.then_ (hK18 _ ?_)
       refine AK.region ?_
       refine .v (.add rfl rfl (by omega)) ?_
       refine .mv rfl (.nil ?_)
       first | refine AK.then_ (hK15 _ _ ((y.1 + 1, y.2.2.2.2.1.length, va2, vb2, y.2.2.2.2.1 ++ [y.2.2.2.2.1.getD y.2.1 [] ++ [ltr c]], y.2.2.2.2.2.1.set (y.2.1 * 6 + c) (y.2.2.2.2.1.length : Int) ++ List.replicate 6 0, y.2.2.2.2.2.2 ++ [-1])) ⟨hA1, sva2, svb2, by dsimp only; rw [List.length_append]; simp; omega, by dsimp only; omega, by dsimp only; rw [List.length_append]; simp, by dsimp only; rw [getD_app_ge (Nat.le_refl _), take_ltr (by omega) hcl, ← hst]; simp⟩ (by dsimp only; omega) (slr) (fun w hw => by dsimp only; simp only [List.map_append, List.length_append]; exact hw)) | refine AK.then_ (hK15 _ _ ((y.1 + 1, t, y.2.2.1, y.2.2.2.1, y.2.2.2.2.1, y.2.2.2.2.2.1, y.2.2.2.2.2.2)) ⟨hU, ta, tb, by dsimp only; omega, by dsimp only; omega, htl, by dsimp only; rw [hte, take_ltr (by omega) hcl, hst]⟩ (by dsimp only; omega) (slr) (fun w hw => hw))
     ·have hye : y.2.2.2.2.1.getD y.2.1 [] = (ps.getD x.1 []) := by rw [hst, show y.1 = (ps.getD x.1 []).length by omega, List.take_length]
      have hM := hU.mark hsl hc1 hye
      refine .exit (.then_exit (.then_exit (.block_exit ?_)))
      refine AK.then_ (hK13 _ ?_)
      refine .sr fun _ hK25 => ?_
      refine .mv rfl ?_
      refine .v (.nilCheck rfl) ?_
      refine .v (.fieldAddr fd72_1 rfl) ?_
      refine .v (.loadBox on70 rfl bsp rfl) ?_
      refine .mv rfl ?_
      first | refine .v (.iN sl70 rfl rfl) ?_ | refine .v (.iK sl70 rfl rfl) ?_
      refine AK.val (.int .i32 (y.2.2.2.2.2.2.getD y.2.1 0)) (Yl.loadI on21 rfl rdp (by omega)) trivial rfl ?_
      refine .v (.lss rfl rfl) ?_
      refine .nt hK25 ?_
      refine AK.condD rfl (fun hc4 => ?_) (fun hc4 => ?_)
      ·have hM1 := hM
       rw [if_pos hc4] at hM1
       refine AK.region ?_
       refine .mv rfl ?_
       refine .v (.nilCheck rfl) ?_
       refine .v (.fieldAddr fd72_1 rfl) ?_
       refine .v (.loadBox on70 rfl bsp rfl) ?_
       refine .mv rfl (.mv rfl ?_)
       refine .v (.convI (by kernel_rfl) un21 rfl (wrap_i32w (by omega))) ?_
       first | refine .v (.iN sl70 rfl rfl) ?_ | refine .v (.iK sl70 rfl rfl) ?_
       refine AK.store1e 1 rfl sz21 rfl rfl rfl rfl (by omega) (cs' := ((y.2.2.2.2.2.2.set y.2.1 (x.1 : Int)).map (Value.int .i32))) (by rw [List.map_set]; rfl) trivial ?_
       refine .nil (.block_normal ?_)
       refine AK.then_ (hK8 _ ?_)
       refine AK.region ?_
       refine .v (.add rfl rfl (by omega)) ?_
       refine .mv rfl (.nil ?_)
       first | refine AK.then_ (hK5 _ _ ((x.1 + 1, x.2.1, x.2.2.1, x.2.2.2.1, x.2.2.2.2.1, x.2.2.2.2.2)) ⟨hT.skip hc1, sa, sb, by dsimp only; omega, by dsimp only; omega⟩ (by dsimp only; omega) (slr) (fun w hw => hw)) | refine AK.then_ (hK5 _ _ ((x.1 + 1, y.2.2.1, y.2.2.2.1, y.2.2.2.2.1, y.2.2.2.2.2.1, y.2.2.2.2.2.2.set y.2.1 (x.1 : Int))) ⟨hM1, ta, tb, by dsimp only; omega, by dsimp only; omega⟩ (by dsimp only; omega) (slr) (fun w hw => hw)) | refine AK.then_ (hK5 _ _ ((x.1 + 1, y.2.2.1, y.2.2.2.1, y.2.2.2.2.1, y.2.2.2.2.2.1, y.2.2.2.2.2.2)) ⟨hM0, ta, tb, by dsimp only; omega, by dsimp only; omega⟩ (by dsimp only; omega) (slr) (fun w hw => hw))
      ·have hM0 := hM
       rw [if_neg hc4] at hM0
       refine .skip (.block_normal ?_)
       refine AK.then_ (hK8 _ ?_)
       refine AK.region ?_
       refine .v (.add rfl rfl (by omega)) ?_
       refine .mv rfl (.nil ?_)
       first | refine AK.then_ (hK5 _ _ ((x.1 + 1, x.2.1, x.2.2.1, x.2.2.2.1, x.2.2.2.2.1, x.2.2.2.2.2)) ⟨hT.skip hc1, sa, sb, by dsimp only; omega, by dsimp only; omega⟩ (by dsimp only; omega) (slr) (fun w hw => hw)) | refine AK.then_ (hK5 _ _ ((x.1 + 1, y.2.2.1, y.2.2.2.1, y.2.2.2.2.1, y.2.2.2.2.2.1, y.2.2.2.2.2.2.set y.2.1 (x.1 : Int))) ⟨hM1, ta, tb, by dsimp only; omega, by dsimp only; omega⟩ (by dsimp only; omega) (slr) (fun w hw => hw)) | refine AK.then_ (hK5 _ _ ((x.1 + 1, y.2.2.1, y.2.2.2.1, y.2.2.2.2.1, y.2.2.2.2.2.1, y.2.2.2.2.2.2)) ⟨hM0, ta, tb, by dsimp only; omega, by dsimp only; omega⟩ (by dsimp only; omega) (slr) (fun w hw => hw))
  ·have hx0 : x.1 = ps.length := by omega
   have hT2 := hT
   rw [hx0] at hT2
   refine .exit (.then_exit (.then_exit (.block_exit ?_)))
   refine AK.then_ (hK3 _ ?_)
   refine .sr fun _ hK26 => ?_
   refine .mv rfl ?_
   refine AK.own' [bigA [box bx12 72 2 [x.2.1, x.2.2.1], row x.2.1 73 6 x.2.2.2.1.length (x.2.2.2.2.1.map (Value.int .i32)), row x.2.2.1 21 1 x.2.2.2.1.length (x.2.2.2.2.2.map (Value.int .i32))]] (fun w hw => HW.unflat (l := [_, _, _]) (own := []) (hw.pick [2, 0, 1] (by decide) rfl rfl)) ?_
   refine AK.callM 0 rfl co57 rfl (fun w F hw hA => s_complete w F bx12 x.2.1 x.2.2.1 ps x.2.2.2.1 x.2.2.2.2.1 x.2.2.2.2.2 hT2 (by omega) hA) trivial rfl ?_
   rintro r A o ⟨fl, fd, hF, rfl, rfl, rfl⟩
   refine AK.flat0 rfl ?_
   refine .nt hK26 ?_
   refine .sr fun _ hK27 => ?_
   refine .mv rfl (.as rfl (.nt hK27 (.ret ?_)))
   refine AK.ret1 rfl rfl (fun w hw => ⟨_, _, ?_, rfl, Ret.of (hw.pick [0, 1, 2] (by decide) rfl rfl)⟩)
   exact ⟨bx12, x.2.1, x.2.2.1, x.2.2.2.1, fl, fd, hF, by omega, by rw [← hx0]; exact hNl, rfl, rfl⟩

end Go.Proofs.Ytaeojcaidcjnaaa
