import Derived.Test.YtoikhoniogicdaaE4
set_option linter.unusedVariables false
set_option linter.unusedSimpArgs false
namespace Go.Proofs.Ytoikhoniogicdaa
open Go.Sx Go.RowKit
set_option maxHeartbeats 400000 in
set_option maxRecDepth 100000 in
theorem s_min (w : World) (v : Value) (d : Dfa) (h : RdD (fun _ => False) w v d) : CallS Try.prog 19 [v] w (fun r o => ∃ (vF vN : Value) (rs : List Value), r = .agg #[.int .i64 (MinV d).L, .int .i64 (MinV d).s, vF, vN] ∧ rs.length = (MinV d).nx.length ∧ IsSl vF ∧ IsSl vN ∧ o = dfaO 4 3 26 vF vN rs (MinV d)) := by
 have h0 := h
 obtain ⟨vF, vN, rfl, hF, hN⟩ := h
 have hF0 := hF
 have hN0 := hN
 obtain ⟨rs, hrl, hNr, hNi⟩ := hN
 have sF := hF.sl
 have sN := hNr.sl
 have hmf := hF.le
 have hmn := hNr.le
 unfold RdL at hF
 refine spec_of Try.func19 rfl (Nat.le_of_ble_eq_true rfl) ?_
 refine .sr fun _ hK1 => ?_
 refine AK.box_ (E := 25) (cs := [.int .i64 d.L, .int .i64 d.s, vF, vN]) rfl rfl rfl trivial rfl (fun bx1 => ?_)
 refine AK.alloc el25 rfl rfl trivial rfl (fun bx2 => ?_)
 refine .nt hK1 ?_
 refine .seq fun _ hK2 => ?_
 refine .sr fun _ hK3 => ?_
 refine .v (.loadBoxG ag25 rfl bsp rfl rfl) ?_
 refine AK.call co23 rfl (fun w hw => s_validate w _ d (h0.at hw)) trivial rfl ?_
 rintro r o ⟨rfl, rfl⟩
 refine .v (.neq rfl rfl) ?_
 refine .nt hK3 ?_
 refine AK.condNe rfl (fun hc0 => ?_) (fun hc0 => ?_)
 ·have hnv : ¬ VD d := fun h => hc0 ((errV_iff d).2 h)
  refine .sr fun _ hK4 => ?_
  refine .v (.build (parts := []) (cs := #[.int .i64 0, .int .i64 0, .slice none 0 0, .slice none 0 0]) rfl (by kernel_rfl)) ?_
  refine AK.storeBox 1 (us := [.int .i64 0, .int .i64 0, .slice none 0 0, .slice none 0 0]) (cs' := [.int .i64 0, .int .i64 0, .slice none 0 0, .slice none 0 0]) rfl sz25 rfl rfl rfl rfl oneP (Nat.le_of_ble_eq_true rfl) rfl trivial ?_
  refine .nt hK4 (.ret (.then_ret ?_))
  refine AK.own' (dfaO 4 3 26 (.slice none 0 0) (.slice none 0 0) [] nilD ++ [box bx2 25 4 [.int .i64 0, .int .i64 0, .slice none 0 0, .slice none 0 0]]) (fun w hw => by have h1 := (((hw.pick [1] (by decide) rfl rfl).ghost 4 1).ghost 26 1).ghostG (f := Value.int .i64) 3; exact h1.pick [1, 2, 3, 0] (by decide) rfl rfl) ?_
  refine AK.retG [.cell 2 25] rfl (.cons (.cell ag25 rfl bsp rfl rfl) (.nil)) (fun w hw => ⟨_, _, ?_, rfl, Ret.of (hw.pick [0, 1, 2] (by decide) rfl rfl)⟩)
  rw [show MinV d = nilD from if_neg hnv]
  exact ⟨_, _, [], rfl, rfl, nilSl, nilSl, rfl⟩
 ·have hv : VD d := (errV_iff d).1 hc0
  refine .skip ?_
  refine AK.then_ (hK2 _ ?_)
  refine .sr fun _ hK5 => ?_
  refine .v (.loadBoxG ag25 rfl bsp rfl rfl) ?_
  refine AK.call co39 rfl (fun w hw => s_minimal w _ d (h0.at hw) hv) trivial rfl ?_
  rintro r o ⟨mF, mN, mS, mrs, rfl, hmrs, smF, smN, smS, rfl⟩
  refine .mv rfl ?_
  refine .v (.extract rfl rfl) ?_
  refine .v (.extract rfl rfl) ?_
  refine AK.alloc el25 rfl rfl trivial rfl (fun bx3 => ?_)
  refine AK.storeBox 6 (us := [.int .i64 (minD d).L, .int .i64 (minD d).s, mF, mN]) (cs' := [.int .i64 (minD d).L, .int .i64 (minD d).s, mF, mN]) rfl sz25 rfl rfl rfl rfl oneP (Nat.le_of_ble_eq_true rfl) rfl trivial ?_
  refine .as rfl (.nt hK5 ?_)
  refine .sr fun _ hK6 => ?_
  refine .v (.loadBoxG ag25 rfl bsp rfl rfl) ?_
  refine AK.storeBox 1 (us := [.int .i64 (minD d).L, .int .i64 (minD d).s, mF, mN]) (cs' := [.int .i64 (minD d).L, .int .i64 (minD d).s, mF, mN]) rfl sz25 rfl rfl rfl rfl oneP (Nat.le_of_ble_eq_true rfl) rfl trivial ?_
  refine .nt hK6 (.ret ?_)
  refine AK.retG [.cell 2 25] rfl (.cons (.cell ag25 rfl bsp rfl rfl) (.nil)) (fun w hw => ⟨_, _, ?_, rfl, Ret.of (hw.pick [2, 3, 4] (by decide) rfl rfl)⟩)
  rw [show MinV d = minD d from if_pos hv]
  exact ⟨mF, mN, mrs, rfl, hmrs, smF, smN, rfl⟩

def oddM : Dfa := ⟨2, 0, [false, true, false, true], [[1, 0], [2, 1], [3, 2], [0, 3]]⟩
set_option maxHeartbeats 400000 in
set_option maxRecDepth 100000 in
theorem s_odd (w : World) : CallS Try.prog 36 [] w (fun r o => DfaR 4 3 26 r o oddM) := by
 refine spec_of Try.func36 rfl (Nat.le_of_ble_eq_true rfl) ?_
 refine .sr fun _ hK1 => ?_
 refine AK.alloc el25 rfl rfl trivial rfl (fun bx0 => ?_)
 refine .nt hK1 ?_
 refine .sr fun _ hK2 => ?_
 refine AK.lit (xs := [.const (.bool false), .const (.bool true), .const (.bool false), .const (.bool true)]) sl22 el4 rfl rfl rfl (by simp [Value.cells]) (by decide) (by decide) trivial rfl (fun vf => ?_)
 refine AK.shape 1 rfl (fun sf => ?_)
 refine AK.lit (xs := [.const (.int .i64 1), .const (.int .i64 0)]) sl26 el3 rfl rfl rfl (by simp [Value.cells]) (by decide) (by decide) trivial rfl (fun r1 => ?_)
 refine AK.shape 2 rfl (fun s1 => ?_)
 refine AK.lit (xs := [.const (.int .i64 2), .const (.int .i64 1)]) sl26 el3 rfl rfl rfl (by simp [Value.cells]) (by decide) (by decide) trivial rfl (fun r2 => ?_)
 refine AK.shape 3 rfl (fun s2 => ?_)
 refine AK.lit (xs := [.const (.int .i64 3), .const (.int .i64 2)]) sl26 el3 rfl rfl rfl (by simp [Value.cells]) (by decide) (by decide) trivial rfl (fun r3 => ?_)
 refine AK.shape 4 rfl (fun s3 => ?_)
 refine AK.lit (xs := [.const (.int .i64 0), .const (.int .i64 3)]) sl26 el3 rfl rfl rfl (by simp [Value.cells]) (by decide) (by decide) trivial rfl (fun r4 => ?_)
 refine AK.shape 5 rfl (fun s4 => ?_)
 refine AK.lit (xs := [.tmp 2, .tmp 3, .tmp 4, .tmp 5]) sl23 el26 rfl rfl rfl (by intro a ha; simp at ha; rcases ha with rfl | rfl | rfl | rfl; (rw [s1.cells]; rfl); (rw [s2.cells]; rfl); (rw [s3.cells]; rfl); (rw [s4.cells]; rfl)) (by decide) (by decide) trivial rfl (fun vn => ?_)
 refine AK.shape 6 rfl (fun sn => ?_)
 refine .v (.build (parts := [(0, .const (.int .i64 2)), (2, .tmp 1), (3, .tmp 6)]) (cs := #[.int .i64 2, .int .i64 0, vf, vn]) rfl (by obtain ⟨_, _, _, rfl⟩ := sf; obtain ⟨_, _, _, rfl⟩ := sn; kernel_rfl)) ?_
 refine AK.storeBox 0 (us := [.int .i64 2, .int .i64 0, vf, vn]) (cs' := [.int .i64 2, .int .i64 0, vf, vn]) rfl sz25 rfl rfl rfl rfl oneP (Nat.le_of_ble_eq_true rfl) rfl trivial ?_
 refine .nt hK2 (.ret ?_)
 refine AK.own' (dfaO 4 3 26 vf vn [r1, r2, r3, r4] oddM ++ [box bx0 25 4 [.int .i64 2, .int .i64 0, vf, vn]]) (fun w hw => by have e : [r1, r2, r3, r4].flatMap (·.cells.toList) = [r1, r2, r3, r4] := (by simp [s1.cells, s2.cells, s3.cells, s4.cells]); rw [e] at hw; have h2 := hw.pick [1, 6, 0, 2, 3, 4, 5] (by decide) rfl rfl; have h3 := HW.pick (HW.unflat (l := [_, _, _, _]) (own := [_, _, _]) (HW.pick h2 [3, 4, 5, 6, 0, 1, 2] (by decide) rfl rfl)) [1, 2, 0, 3] (by decide) rfl rfl; exact h3) ?_
 refine AK.retG [.cell 0 25] rfl (.cons (.cell ag25 rfl bsp rfl rfl) (.nil)) (fun w hw => ⟨_, _, ?_, rfl, Ret.of (hw.pick [0, 1, 2] (by decide) rfl rfl)⟩)
 exact ⟨vf, vn, [r1, r2, r3, r4], rfl, rfl, sf, sn, rfl⟩

theorem odd_min : (MinV oddM).fin.length = 2 := by decide +kernel
set_option maxRecDepth 100000 in
theorem s_awake (w : World) : CallS Try.prog 16 [] w (fun r o => r = .bool true ∧ o = []) := by
 refine spec_of Try.func16 rfl (Nat.le_of_ble_eq_true rfl) ?_
 refine .sr fun _ hK1 => ?_
 refine .as rfl (.nt hK1 ?_)
 refine .sr fun _ hK2 => ?_
 refine AK.call co36 rfl (fun w hw => s_odd w) trivial rfl ?_
 rintro r o ⟨vF, vN, rs, rfl, hrl, sF, sN, rfl⟩
 refine AK.call co19 rfl (fun w hw => s_min w _ oddM (RdD.own 0 hw hrl rfl rfl rfl)) trivial rfl ?_
 rintro r o ⟨mF, mN, mrs, rfl, hmrs, smF, smN, rfl⟩
 refine .v (.fieldQ (FldQ.of (by kernel_rfl) : FldQ _ 25 2 2) rfl rfl) ?_
 refine .v (.lenR sl22 rfl rdp) ?_
 refine .v (.eql rfl rfl) ?_
 refine .as rfl (.nt hK2 (.ret ?_))
 refine AK.ret1 rfl rfl (fun w hw => ⟨_, _, ?_, rfl, Ret.of (hw.pick [] (by decide) rfl rfl)⟩)
 exact ⟨congrArg Value.bool (decide_eq_true (by rw [odd_min]; rfl)), rfl⟩

end Go.Proofs.Ytoikhoniogicdaa
