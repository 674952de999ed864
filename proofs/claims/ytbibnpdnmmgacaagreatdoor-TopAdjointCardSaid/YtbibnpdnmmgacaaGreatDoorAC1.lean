/-
  The law TopAdjoint returns true at every input and leaves what lay there: the tied card Rows.TopAdjointCardSaid. No conditions.
-/
import Derived.Test.YtbibnpdnmmgacaaGreatDoorRows
import Derived.Test.YtbibnpdnmmgacaaGreatDoorCards
import Derived.Test.YtbibnpdnmmgacaaGreatDoorTie
import Derived.Test.YtbibnpdnmmgacaaGreatDoorAZd
import Derived.Test.YtbibnpdnmmgacaaGreatDoorAZp
import Derived.ProofKit
import Derived.OpenShut
import Derived.SizedLaws
import Derived.LaidMore
import Derived.Stop.Joined
import Derived.SevenTiedAt
import Derived.ChangeOld
import Derived.Carry
import Derived.Below
set_option linter.unusedVariables false
set_option linter.unusedSimpArgs false
namespace Go.Proofs.YtbibnpdnmmgacaaGreatDoor.topAdjoint
open Go.ChangeShapes Go.WideShapes Go.ChangeAt Go.RowKit Go.Sx
open Go.ChangeMaps (open_string shut_string)
theorem params : Tryz.f5.params = #[32, 32, 56] := rfl
set_option maxRecDepth 100000 in
theorem lifted (os : Os) (started : os.Started) (H : Type) (enc : TypeId × Value → H) :
    ReturnsInHanded {} Tryz.checked os 5 .any (fun w args => (Rows.topAdjointSpec.pre enc Tryz.prog Tryz.f5 [] false w args ∧ laidMetH Tryz.prog laidT w) ∧ sizedMet enc Tryz.prog Tryz.f5 (OpenSpec.ofChange Rows.topAdjointSpec) false w args)
      (Rows.topAdjointSpec.post enc Tryz.prog Tryz.f5 false true false false) := by
  refine returnsInHanded_of_change_and (C := Tryz.checked) (X := fun w _ => laidMetH Tryz.prog laidT w) (fun _ _ _ hh h => h.of_heap hh) ownK started (by kernel_rfl) Tryz.func5
    (ChangeSpec.witness_shaped (enc := enc) (C := Tryz.checked) (os := os) (X := fun w _ => laidMetH Tryz.prog laidT w) false (World.doorLaid Tryz.prog 400 os) #[(.agg #[(.int .i64 0), (.int .i64 0), (.slice none 0 0), (.slice none 0 0)]), (.agg #[(.int .i64 0), (.int .i64 0), (.slice none 0 0), (.slice none 0 0)]), (.slice none 0 0)] 8 rfl (World.shaped_of_RefB (by kernel_rfl) (by kernel_rfl)) (by kernel_rfl) (by kernel_rfl) (by kernel_rfl) (door_met os _)) ?_
  intro W base args ds gs before hval0 hW _ _ hL _
  have hval : ∀ (j : Nat) t v, Tryz.f5.params[j]? = some t → args[j]? = some v → Value.okWide Tryz.prog W .any base t v := hval0
  have hW' := hW
  obtain ⟨p, q, hA0, hV, rfl, hfz, hnd⟩ := hW
  have hA : DataW.TrodAll enc Tryz.prog W 0 (fun _ => true) true Tryz.f5.params.toList args.toList ds p := hA0
  rw [params] at hA hval
  have hT := of_laid hL
  obtain ⟨v0, vs0, d0, ds0, p0, q0, hargs, rfl, rfl, h0, r0⟩ := trodAll_cons hA
  obtain ⟨v1, vs1, d1, ds1, p1, q1, rfl, rfl, rfl, h1, r1⟩ := trodAll_cons r0
  obtain ⟨v2, vs2, d2, ds2, p2, q2, rfl, rfl, rfl, h2, r2⟩ := trodAll_cons r1
  obtain ⟨rfl, rfl, rfl⟩ := trodAll_nil r2
  obtain rfl : args = #[v0, v1, v2] := by cases args; simp_all
  obtain ⟨rfl, rfl⟩ := trodVars_none hV
  have k0 := h0
  have lt0 : ∀ x ∈ p0, x.block < W.heap.size := by obtain ⟨m, hm⟩ := k0; exact DataW.trod_lt m _ _ _ hm
  obtain ⟨df0, rd0, wL0, ws0, wx0⟩ := open_dfa (by kernel_rfl) (hval 0 32 v0 rfl rfl) h0
  have k1 := h1
  have lt1 : ∀ x ∈ p1, x.block < W.heap.size := by obtain ⟨m, hm⟩ := k1; exact DataW.trod_lt m _ _ _ hm
  obtain ⟨df1, rd1, wL1, ws1, wx1⟩ := open_dfa (by kernel_rfl) (hval 1 32 v1 rfl rfl) h1
  have k2 := h2
  have lt2 : ∀ x ∈ p2, x.block < W.heap.size := by obtain ⟨m, hm⟩ := k2; exact DataW.trod_lt m _ _ _ hm
  obtain ⟨b2, len2, cap2, rfl⟩ := okWide_slice sl56.1 (hval 2 56 v2 rfl rfl)
  obtain ⟨vv2, xs2, ee2, w2, wf2⟩ := (by obtain ⟨m, hm⟩ := h2; exact op_strs sl56.1 un9 (by kernel_rfl) hm : ∃ v xs, (Value.slice b2 len2 cap2).cells.toList = [v] ∧ RdL (fun _ => False) sv W v xs ∧ ∀ a ∈ xs, a.length ≤ 9223372036854775807)
  obtain rfl : Value.slice b2 len2 cap2 = vv2 := by simpa [Value.cells] using ee2
  clear hA0 hval0
  refine (l_adjoint W _ _ df0 df1 rd0 rd1 _ xs2 w2 wf2 hT).mono fun e W' hpost => ?_
  obtain ⟨r, o, ⟨rfl, rfl⟩, he, hret⟩ := hpost
  subst he
  have bel := hret.1.toBelow
  exact ⟨_, rfl, _, _, _, [], _, [], hW', trodAll_mk1 (shut_bool bo4 _), (trodAll_cons_mk (Below.trod laidOut (by kernel_rfl) (of_decide_eq_true (by kernel_rfl)) k0 bel lt0) (trodAll_cons_mk (Below.trod laidOut (by kernel_rfl) (of_decide_eq_true (by kernel_rfl)) k1 bel lt1) (trodAll_cons_mk (Below.trod laidOut (by kernel_rfl) (of_decide_eq_true (by kernel_rfl)) k2 bel lt2) trodAll_mk0))), rfl, bel.frame _, fun h => by cases h⟩
theorem over : Rows.topAdjointRow.holds Tryz.pinned (OpenSpec.ofChange Rows.topAdjointSpec) :=
  OpenClaim.holds_of_wide 5 Tryz.f5 rfl rfl rfl rfl rfl rfl rfl ⟨rfl, rfl, rfl, rfl, rfl⟩ rfl rfl rfl rfl rfl (by kernel_rfl) Tryz.func5 (by kernel_rfl)
    (of_decide_eq_true (by kernel_rfl)) (by unfold Func.isWrapper; first | (rw [if_pos (by decide +kernel)]; kernel_rfl) | (rw [if_neg (by decide +kernel)]; exact ⟨rfl, rfl⟩))
    (fun os started H enc _ => lifted os started H enc)
theorem proved : Rows.TopAdjointCardSaid :=
  Claim7.holds_tied_plain_at .later [] [.data] true (true, "c978707644e268f6bae3126072e719f6c0d4d125b38ea7621d27e49f19cbaecc") false
    over (fun _ h => by cases h) (by kernel_rfl) (fun _ h => by cases h) topAdjoint_row_tie rfl ⟨rfl, rfl⟩ (by kernel_rfl) rfl
    (fun f fn hf hfn => by
      obtain rfl : f = 5 := Option.some.inj ((show Tryz.prog.funcNamed "semigroup/semigrouptop.TopAdjoint" = some 5 by kernel_rfl).symm.trans hf) |>.symm
      obtain rfl : fn = Tryz.f5 := (Option.some.inj (Tryz.func5.symm.trans hfn)).symm
      exact ⟨by kernel_rfl, fun j t ht => by
        rw [params] at ht
        have hm : t ∈ [32, 32, 56] := by simpa using Array.mem_of_getElem? ht
        have hall : ([32, 32, 56].all fun u => !Tryz.prog.wantsStandIn u) = true := by kernel_rfl
        exact (show Tryz.prog.wantsStandIn t = false by simpa using List.all_eq_true.1 hall t hm)⟩)
    (by kernel_rfl)
#print axioms proved
end Go.Proofs.YtbibnpdnmmgacaaGreatDoor.topAdjoint
