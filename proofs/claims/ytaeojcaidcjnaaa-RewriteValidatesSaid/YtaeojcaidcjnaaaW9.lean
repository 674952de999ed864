import Derived.Test.YtaeojcaidcjnaaaW8
set_option linter.unusedVariables false
set_option linter.unusedSimpArgs false
namespace Go.Proofs.Ytaeojcaidcjnaaa
open Go.Sx Go.RowKit
set_option maxRecDepth 100000 in
theorem l_validates (w : World) (v : Value) (rs : List Rul) (h : RdR (fun _ => False) w v rs) (hll : ∀ k, k < rs.length → (rs.getD k ([], [])).1.length ≤ 9223372036854775807 ∧ (rs.getD k ([], [])).2.length ≤ 9223372036854775807) (L : Int) : CallS Try.prog 3 [v, .int .i64 L] w (fun r o => r = .bool true ∧ o = []) := by
 have h0 := h
 have hb := h.len
 have sv0 := Rd.sl h
 unfold RdR at h
 refine spec_of Try.func3 rfl (Nat.le_of_ble_eq_true rfl) ?_
 refine .sr fun _ hK1 => ?_
 refine .as rfl (.nt hK1 ?_)
 refine .sr fun _ hK2 => ?_
 refine .mv rfl (.mv rfl ?_)
 refine AK.call co13 rfl (fun w hw => s_rval w v rs (h0.at hw) hll L) trivial rfl ?_
 rintro r o ⟨rfl, rfl⟩
 refine .mv rfl (.mv rfl ?_)
 refine AK.call co14 rfl (fun w hw => s_refrval w v rs (h0.at hw) hll L) trivial rfl ?_
 rintro r o ⟨rfl, rfl⟩
 refine .v (.eql rfl rfl) ?_
 refine .mv rfl ?_
 refine AK.knownT (g := 12) rfl (decide_eq_true rfl) (fun hg_1_7 => ?_)
 refine AK.call co15 rfl (fun w hw => s_awake w) ⟨_, rfl, congrArg (fun b => some (Value.bool b)) hg_1_7⟩ rfl ?_
 rintro r o ⟨rfl, rfl⟩
 refine .v (.pickT rfl (hg_1_7) rfl) ?_
 refine .as rfl (.nt hK2 (.ret ?_))
 refine AK.ret1 rfl rfl (fun w hw => ⟨_, _, ?_, rfl, Ret.of (hw.pick [] (by decide) rfl rfl)⟩)
 exact ⟨rfl, rfl⟩

end Go.Proofs.Ytaeojcaidcjnaaa
