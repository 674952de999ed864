import Derived.Test.YtaeojcaidcjnaaaXWp
set_option linter.unusedVariables false
set_option linter.unusedSimpArgs false
namespace Go.Proofs.Ytaeojcaidcjnaaa
open Go.Sx Go.RowKit
set_option maxHeartbeats 2600000 in
set_option maxRecDepth 100000 in
theorem l_tables (w : World) (v : Value) (rs : List Rul) (h : RdR (fun _ => False) w v rs) (hll : ∀ k, k < rs.length → (rs.getD k ([], [])).1.length ≤ 9223372036854775807 ∧ (rs.getD k ([], [])).2.length ≤ 9223372036854775807) (L : Int) (mon : Bool) (hX : MxA w) : CallS Try.prog 12 [v, .int .i64 L, .bool mon] w (fun r o => r = .bool true ∧ o = []) := by
 have h0 := h
 have hb := h.len
 have sv0 := Rd.sl h
 unfold RdR at h
 refine spec_of Try.func12 rfl (Nat.le_of_ble_eq_true rfl) ?_
 refine .sr fun _ hK1 => ?_
 refine .as rfl (.nt hK1 ?_)
 refine .seq fun _ hK2 => ?_
 refine .sr fun _ hK3 => ?_
 refine .mv rfl (.mv rfl ?_)
 refine AK.call co14 rfl (fun w hw => s_refrval w v rs (h0.at hw) hll L) trivial rfl ?_
 rintro r o ⟨rfl, rfl⟩
 refine .as rfl (.nt hK3 ?_)
 refine .sr fun _ hK4 => ?_
 refine .mv rfl ?_
 refine .v (.neq rfl rfl) ?_
 refine .nt hK4 ?_
 refine AK.condNe rfl (fun hc0 => ?_) (fun hc0 => ?_)
 ·refine .sr fun _ hK5 => ?_
  refine .mv rfl (.mv rfl (.mv rfl ?_))
  refine AK.call co31 rfl (fun w hw => s_tablebad w v rs (h0.at hw) hll L mon hc0) trivial rfl ?_
  rintro r o ⟨rfl, rfl⟩
  refine .mv rfl ?_
  refine .v (.extract rfl rfl) ?_
  refine .v (.extract rfl rfl) ?_
  refine .v (.extract rfl rfl) ?_
  refine .as rfl (.as rfl (.as rfl (.nt hK5 ?_)))
  refine .sr fun _ hK6 => ?_
  refine .mv rfl (.mv rfl ?_)
  refine .v (.eql rfl rfl) ?_
  refine .mv rfl ?_
  refine AK.knownT (g := 33) rfl (decide_eq_true rfl) (fun hg_4_3 => ?_)
  refine AK.val _ (Yl.move rfl) ⟨_, rfl, congrArg (fun b => some (Value.bool b)) hg_4_3⟩ rfl ?_
  refine AK.val _ (Yl.lenR sl34 rfl (by first | exact rdp | exact RdS.nil | exact RdS.view 2 rfl | exact RdS.view 5 rfl)) ⟨_, rfl, congrArg (fun b => some (Value.bool b)) hg_4_3⟩ rfl ?_
  refine AK.val _ (Yl.eql rfl rfl) ⟨_, rfl, congrArg (fun b => some (Value.bool b)) hg_4_3⟩ rfl ?_
  refine .v (.pickT rfl (hg_4_3) rfl) ?_
  refine .mv rfl ?_
  refine AK.knownT (g := 38) rfl (decide_eq_true rfl) (fun hg_4_8 => ?_)
  refine AK.val _ (Yl.move rfl) ⟨_, rfl, congrArg (fun b => some (Value.bool b)) hg_4_8⟩ rfl ?_
  refine AK.val _ (Yl.lenR sl53 rfl (by first | exact rdp | exact RdS.nil | exact RdS.view 2 rfl | exact RdS.view 5 rfl)) ⟨_, rfl, congrArg (fun b => some (Value.bool b)) hg_4_8⟩ rfl ?_
  refine AK.val _ (Yl.eql rfl rfl) ⟨_, rfl, congrArg (fun b => some (Value.bool b)) hg_4_8⟩ rfl ?_
  refine .v (.pickT rfl (hg_4_8) rfl) ?_
  refine .mv rfl ?_
  refine AK.knownT (g := 43) rfl (decide_eq_true rfl) (fun hg_4_13 => ?_)
  refine AK.call co15 rfl (fun w hw => s_awake w) ⟨_, rfl, congrArg (fun b => some (Value.bool b)) hg_4_13⟩ rfl ?_
  rintro r o ⟨rfl, rfl⟩
  refine .v (.pickT rfl (hg_4_13) rfl) ?_
  refine .as rfl (.nt hK6 (.ret (.then_ret ?_)))
  refine AK.ret1 rfl rfl (fun w hw => ⟨_, _, ?_, rfl, Ret.of (hw.pick [] (by decide) rfl rfl)⟩)
  exact ⟨rfl, rfl⟩
 ·refine .skip ?_
  refine AK.then_ (hK2 _ ?_)
  refine .seq fun _ hK7 => ?_
  refine .sr fun _ hK8 => ?_
  refine .mv rfl (.mv rfl ?_)
  refine AK.call co21 rfl (fun w hw => s_little w v rs (h0.at hw) hll L 10) trivial rfl ?_
  rintro r o ⟨rfl, rfl⟩
  refine .v (.not rfl) ?_
  refine .nt hK8 ?_
  refine AK.condB rfl (fun hc1 => ?_) (fun hc1 => ?_)
  ·refine .sr fun _ hK9 => ?_
   refine AK.call co15 rfl (fun w hw => s_awake w) trivial rfl ?_
   rintro r o ⟨rfl, rfl⟩
   refine .as rfl (.nt hK9 (.ret (.then_ret ?_)))
   refine AK.ret1 rfl rfl (fun w hw => ⟨_, _, ?_, rfl, Ret.of (hw.pick [] (by decide) rfl rfl)⟩)
   exact ⟨rfl, rfl⟩
  ·have hLt := lit_iff.1 (by simpa using hc1)
   have hE := hLt.1
   have hV := errR_iff.1 hE
   have hts := tot_small hLt.2.2 rs.length (Nat.le_refl _)
   have hl10 := hLt.2.1
   refine .skip ?_
   refine AK.then_ (hK7 _ ?_)
   refine .sr fun _ hK10 => ?_
   refine .mv rfl (.mv rfl (.mv rfl ?_))
   refine AK.call co32 rfl (fun w hw => s_reftable w v rs (h0.at hw) L mon hV (by omega)) trivial rfl ?_
   rintro r o ⟨e1, vs1, t1, q1, q2, rv1, hT1, rfl, sq1, sq2, hr1, rfl⟩
   refine .mv rfl ?_
   refine .v (.extract rfl rfl) ?_
   refine .v (.extract rfl rfl) ?_
   refine .v (.extract rfl rfl) ?_
   refine .as rfl (.as rfl (.as rfl (.nt hK10 ?_)))
   refine .seq fun _ hK11 => ?_
   refine .sr fun _ hK12 => ?_
   refine .mv rfl ?_
   refine .v (.lenR sl53 rfl (by first | exact rdp | exact RdS.nil | exact RdS.view 2 rfl | exact RdS.view 5 rfl)) ?_
   refine .v (.gtr rfl rfl) ?_
   refine .nt hK12 ?_
   refine AK.condD rfl (fun hc2 => ?_) (fun hc2 => ?_)
   ·refine .sr fun _ hK13 => ?_
    refine AK.call co15 rfl (fun w hw => s_awake w) trivial rfl ?_
    rintro r o ⟨rfl, rfl⟩
    refine .as rfl (.nt hK13 (.ret (.then_ret ?_)))
    refine AK.ret1 rfl rfl (fun w hw => ⟨_, _, ?_, rfl, Ret.of (hw.pick [] (by decide) rfl rfl)⟩)
    exact ⟨rfl, rfl⟩
   ·refine .skip ?_
    refine AK.then_ (hK11 _ ?_)
    refine .sr fun _ hK14 => ?_
    refine .mv rfl (.mv rfl (.mv rfl ?_))
    refine AK.call co31 rfl (fun w hw => s_table w v rs (h0.at hw) hll L mon (hX.at hw) hE (by omega)) trivial rfl ?_
    rintro r o ⟨e2, vs2, t2, p1, p2, rv2, hT2, rfl, sp1, sp2, hr2, rfl⟩
    obtain ⟨he, hv, ht⟩ := hT1.uniq hT2
    subst he
    subst hv
    subst ht
    refine .mv rfl ?_
    refine .v (.extract rfl rfl) ?_
    refine .v (.extract rfl rfl) ?_
    refine .v (.extract rfl rfl) ?_
    refine .as rfl (.as rfl (.as rfl (.nt hK14 ?_)))
    refine .sr fun _ hK15 => ?_
    refine .mv rfl (.mv rfl ?_)
    refine .v (.eql rfl rfl) ?_
    refine .mv rfl ?_
    refine AK.knownT (g := 74) rfl (decide_eq_true rfl) (fun hg_11_3 => ?_)
    refine AK.val _ (Yl.move rfl) ⟨_, rfl, congrArg (fun b => some (Value.bool b)) hg_11_3⟩ rfl ?_
    refine AK.val _ (Yl.move rfl) ⟨_, rfl, congrArg (fun b => some (Value.bool b)) hg_11_3⟩ rfl ?_
    refine AK.call co33 rfl (fun w hw => s_samerows w p1 q1 t1 t1 (RdM.own 3 4 hw hr2 rfl rfl) (RdM.own 0 1 hw hr1 rfl rfl)) ⟨_, rfl, congrArg (fun b => some (Value.bool b)) hg_11_3⟩ rfl ?_
    rintro r o ⟨rfl, rfl⟩
    refine .v (.pickT rfl (hg_11_3) rfl) ?_
    refine .mv rfl ?_
    refine AK.knownT (g := 79) rfl (decide_eq_true rfl) (fun hg_11_8 => ?_)
    refine AK.val _ (Yl.move rfl) ⟨_, rfl, congrArg (fun b => some (Value.bool b)) hg_11_8⟩ rfl ?_
    refine AK.val _ (Yl.move rfl) ⟨_, rfl, congrArg (fun b => some (Value.bool b)) hg_11_8⟩ rfl ?_
    refine AK.call co34 rfl (fun w hw => s_sameS w p2 q2 vs1 vs1 (RdL.view 5 hw rfl) (RdL.view 2 hw rfl)) ⟨_, rfl, congrArg (fun b => some (Value.bool b)) hg_11_8⟩ rfl ?_
    rintro r o ⟨rfl, rfl⟩
    refine .v (.pickT rfl (hg_11_8) rfl) ?_
    refine .mv rfl ?_
    refine AK.knownT (g := 84) rfl (decide_eq_true rfl) (fun hg_11_13 => ?_)
    refine AK.call co15 rfl (fun w hw => s_awake w) ⟨_, rfl, congrArg (fun b => some (Value.bool b)) hg_11_13⟩ rfl ?_
    rintro r o ⟨rfl, rfl⟩
    refine .v (.pickT rfl (hg_11_13) rfl) ?_
    refine .as rfl (.nt hK15 (.ret ?_))
    refine AK.ret1 rfl rfl (fun w hw => ⟨_, _, ?_, rfl, Ret.of (hw.pick [] (by decide) rfl rfl)⟩)
    exact ⟨rfl, rfl⟩

end Go.Proofs.Ytaeojcaidcjnaaa
