import Derived.Test.YtaeojcaidcjnaaaXE4
set_option linter.unusedVariables false
set_option linter.unusedSimpArgs false
namespace Go.Proofs.Ytaeojcaidcjnaaa
open Go.Sx Go.RowKit
set_option maxHeartbeats 400000 in
set_option maxRecDepth 100000 in
theorem s_min (w : World) (v : Value) (d : Dfa) (h : RdD (fun _ => False) w v d) : CallS Try.prog 43 [v] w (fun r o => ∃ (vF vN : Value) (rs : List Value), r = .agg #[.int .i64 (MinV d).L, .int .i64 (MinV d).s, vF, vN] ∧ rs.length = (MinV d).nx.length ∧ IsSl vF ∧ IsSl vN ∧ o = dfaO 4 3 74 vF vN rs (MinV d)) := by
 have h0 := h
 obtain ⟨vF, vN, rfl, hF, hN⟩ := h
 have hF0 := hF
 have hN0 := hN
 obtain ⟨rs, hrl, hNr, hNi⟩ := hN
 have sF := hF.sl
 have sN := hNr.sl
 have hmf := hF.le
 have hmn := hNr.le
 unfold RdL at hF
 refine spec_of Try.func43 rfl (Nat.le_of_ble_eq_true rfl) ?_
 refine .sr fun _ hK1 => ?_
 refine AK.box_ (E := 36) (cs := [.int .i64 d.L, .int .i64 d.s, vF, vN]) rfl rfl rfl trivial rfl (fun bx1 => ?_)
 refine AK.alloc el36 rfl rfl trivial rfl (fun bx2 => ?_)
 refine .nt hK1 ?_
 refine .seq fun _ hK2 => ?_
 refine .sr fun _ hK3 => ?_
 refine .v (.loadBoxG ag36 rfl bsp rfl rfl) ?_
 refine AK.call co58 rfl (fun w hw => s_validate w _ d (h0.at hw)) trivial rfl ?_
 rintro r o ⟨rfl, rfl⟩
 refine .v (.neq rfl rfl) ?_
 refine .nt hK3 ?_
 refine AK.condNe rfl (fun hc0 => ?_) (fun hc0 => ?_)
 ·have hnv : ¬ VD d := fun h => hc0 ((errV_iff d).2 h)
  refine .sr fun _ hK4 => ?_
  refine .v (.build (parts := []) (cs := #[.int .i64 0, .int .i64 0, .slice none 0 0, .slice none 0 0]) rfl (by kernel_rfl)) ?_
  refine AK.storeBox 1 (us := [.int .i64 0, .int .i64 0, .slice none 0 0, .slice none 0 0]) (cs' := [.int .i64 0, .int .i64 0, .slice none 0 0, .slice none 0 0]) rfl sz36 rfl rfl rfl rfl oneP (Nat.le_of_ble_eq_true rfl) rfl trivial ?_
  refine .nt hK4 (.ret (.then_ret ?_))
  refine AK.own' (dfaO 4 3 74 (.slice none 0 0) (.slice none 0 0) [] nilD ++ [box bx2 36 4 [.int .i64 0, .int .i64 0, .slice none 0 0, .slice none 0 0]]) (fun w hw => by have h1 := (((hw.pick [1] (by decide) rfl rfl).ghost 4 1).ghost 74 1).ghostG (f := Value.int .i64) 3; exact h1.pick [1, 2, 3, 0] (by decide) rfl rfl) ?_
  refine AK.retG [.cell 2 36] rfl (.cons (.cell ag36 rfl bsp rfl rfl) (.nil)) (fun w hw => ⟨_, _, ?_, rfl, Ret.of (hw.pick [0, 1, 2] (by decide) rfl rfl)⟩)
  rw [show MinV d = nilD from if_neg hnv]
  exact ⟨_, _, [], rfl, rfl, nilSl, nilSl, rfl⟩
 ·have hv : VD d := (errV_iff d).1 hc0
  refine .skip ?_
  refine AK.then_ (hK2 _ ?_)
  refine .sr fun _ hK5 => ?_
  refine .v (.loadBoxG ag36 rfl bsp rfl rfl) ?_
  refine AK.call co59 rfl (fun w hw => s_minimal w _ d (h0.at hw) hv) trivial rfl ?_
  rintro r o ⟨mF, mN, mS, mrs, rfl, hmrs, smF, smN, smS, rfl⟩
  refine .mv rfl ?_
  refine .v (.extract rfl rfl) ?_
  refine .v (.extract rfl rfl) ?_
  refine AK.alloc el36 rfl rfl trivial rfl (fun bx3 => ?_)
  refine AK.storeBox 6 (us := [.int .i64 (minD d).L, .int .i64 (minD d).s, mF, mN]) (cs' := [.int .i64 (minD d).L, .int .i64 (minD d).s, mF, mN]) rfl sz36 rfl rfl rfl rfl oneP (Nat.le_of_ble_eq_true rfl) rfl trivial ?_
  refine .as rfl (.nt hK5 ?_)
  refine .sr fun _ hK6 => ?_
  refine .v (.loadBoxG ag36 rfl bsp rfl rfl) ?_
  refine AK.storeBox 1 (us := [.int .i64 (minD d).L, .int .i64 (minD d).s, mF, mN]) (cs' := [.int .i64 (minD d).L, .int .i64 (minD d).s, mF, mN]) rfl sz36 rfl rfl rfl rfl oneP (Nat.le_of_ble_eq_true rfl) rfl trivial ?_
  refine .nt hK6 (.ret ?_)
  refine AK.retG [.cell 2 36] rfl (.cons (.cell ag36 rfl bsp rfl rfl) (.nil)) (fun w hw => ⟨_, _, ?_, rfl, Ret.of (hw.pick [2, 3, 4] (by decide) rfl rfl)⟩)
  rw [show MinV d = minD d from if_pos hv]
  exact ⟨mF, mN, mrs, rfl, hmrs, smF, smN, rfl⟩

end Go.Proofs.Ytaeojcaidcjnaaa
