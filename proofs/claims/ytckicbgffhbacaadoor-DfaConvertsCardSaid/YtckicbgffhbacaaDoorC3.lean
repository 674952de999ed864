/-
  The law DfaConverts returns true at every input and leaves what lay there: the tied card Rows.DfaConvertsCardSaid. No conditions.
-/
import Derived.Test.YtckicbgffhbacaaDoorRows
import Derived.Test.YtckicbgffhbacaaDoorCards
import Derived.Test.YtckicbgffhbacaaDoorTie
import Derived.Test.YtckicbgffhbacaaDoorDo
import Derived.Test.YtckicbgffhbacaaDoorN13
import Derived.Test.YtckicbgffhbacaaDoorOn
import Derived.ProofKit
import Derived.OpenShut
import Derived.SizedLaws
import Derived.LaidMore
import Derived.Stop.Joined
import Derived.SevenTiedAt
import Derived.ChangeOld
import Derived.Carry
import Derived.Below
set_option linter.unusedVariables false
set_option linter.unusedSimpArgs false
namespace Go.Proofs.YtckicbgffhbacaaDoor.dfaConverts
open Go.ChangeShapes Go.WideShapes Go.ChangeAt Go.RowKit Go.Sx
open Go.ChangeMaps (open_string shut_string)
theorem params : Tryd.f4.params = #[32] := rfl
set_option maxRecDepth 100000 in
theorem lifted (os : Os) (started : os.Started) (H : Type) (enc : TypeId × Value → H) :
    ReturnsInHanded {} Tryd.checked os 4 .any (fun w args => (Rows.dfaConvertsSpec.pre enc Tryd.prog Tryd.f4 [] false w args ∧ laidMetH Tryd.prog laidT w) ∧ sizedMet enc Tryd.prog Tryd.f4 (OpenSpec.ofChange Rows.dfaConvertsSpec) false w args)
      (Rows.dfaConvertsSpec.post enc Tryd.prog Tryd.f4 false true false false) := by
  refine returnsInHanded_of_change_and (C := Tryd.checked) (X := fun w _ => laidMetH Tryd.prog laidT w) (fun _ _ _ hh h => h.of_heap hh) ownK started (by kernel_rfl) Tryd.func4
    (ChangeSpec.witness_shaped (enc := enc) (C := Tryd.checked) (os := os) (X := fun w _ => laidMetH Tryd.prog laidT w) false (World.doorLaid Tryd.prog 400 os) #[(.agg #[(.int .i64 0), (.int .i64 0), (.slice none 0 0), (.slice none 0 0)])] 8 rfl (World.shaped_of_RefB (by kernel_rfl) (by kernel_rfl)) (by kernel_rfl) (by kernel_rfl) (by kernel_rfl) (door_met os _)) ?_
  intro W base args ds gs before hval0 hW _ _ hL _
  have hval : ∀ (j : Nat) t v, Tryd.f4.params[j]? = some t → args[j]? = some v → Value.okWide Tryd.prog W .any base t v := hval0
  have hW' := hW
  obtain ⟨p, q, hA0, hV, rfl, hfz, hnd⟩ := hW
  have hA : DataW.TrodAll enc Tryd.prog W 0 (fun _ => true) true Tryd.f4.params.toList args.toList ds p := hA0
  rw [params] at hA hval
  have hT := of_laid hL
  obtain ⟨v0, vs0, d0, ds0, p0, q0, hargs, rfl, rfl, h0, r0⟩ := trodAll_cons hA
  obtain ⟨rfl, rfl, rfl⟩ := trodAll_nil r0
  obtain rfl : args = #[v0] := by cases args; simp_all
  obtain ⟨rfl, rfl⟩ := trodVars_none hV
  have k0 := h0
  have lt0 : ∀ x ∈ p0, x.block < W.heap.size := by obtain ⟨m, hm⟩ := k0; exact DataW.trod_lt m _ _ _ hm
  obtain ⟨df0, rd0, wL0, ws0, wx0⟩ := open_dfa (by kernel_rfl) (hval 0 32 v0 rfl rfl) h0
  clear hA0 hval0
  refine (l_converts W _ df0 rd0 hT).mono fun e W' hpost => ?_
  obtain ⟨r, o, ⟨rfl, rfl⟩, he, hret⟩ := hpost
  subst he
  have bel := hret.1.toBelow
  exact ⟨_, rfl, _, _, _, [], _, [], hW', trodAll_mk1 (shut_bool bo4 _), (trodAll_cons_mk (Below.trod laidOut (by kernel_rfl) (of_decide_eq_true (by kernel_rfl)) k0 bel lt0) trodAll_mk0), rfl, bel.frame _, fun h => by cases h⟩
theorem over : Rows.dfaConvertsRow.holds Tryd.pinned (OpenSpec.ofChange Rows.dfaConvertsSpec) :=
  OpenClaim.holds_of_wide 4 Tryd.f4 rfl rfl rfl rfl rfl rfl rfl ⟨rfl, rfl, rfl, rfl, rfl⟩ rfl rfl rfl rfl rfl (by kernel_rfl) Tryd.func4 (by kernel_rfl)
    (of_decide_eq_true (by kernel_rfl)) (by unfold Func.isWrapper; first | (rw [if_pos (by decide +kernel)]; kernel_rfl) | (rw [if_neg (by decide +kernel)]; exact ⟨rfl, rfl⟩))
    (fun os started H enc _ => lifted os started H enc)
theorem proved : Rows.DfaConvertsCardSaid :=
  Claim7.holds_tied_plain_at .later [] [.data] true (true, "978bbdf44ae99b507e88c4dbeb3d7887053dc6a6cc779c33f699b76658122221") false
    over (fun _ h => by cases h) (by kernel_rfl) (fun _ h => by cases h) dfaConverts_row_tie rfl ⟨rfl, rfl⟩ (by kernel_rfl) rfl
    (fun f fn hf hfn => by
      obtain rfl : f = 4 := Option.some.inj ((show Tryd.prog.funcNamed "semigroup/semigrouplaw07.DfaConverts" = some 4 by kernel_rfl).symm.trans hf) |>.symm
      obtain rfl : fn = Tryd.f4 := (Option.some.inj (Tryd.func4.symm.trans hfn)).symm
      exact ⟨by kernel_rfl, fun j t ht => by
        rw [params] at ht
        have hm : t ∈ [32] := by simpa using Array.mem_of_getElem? ht
        have hall : ([32].all fun u => !Tryd.prog.wantsStandIn u) = true := by kernel_rfl
        exact (show Tryd.prog.wantsStandIn t = false by simpa using List.all_eq_true.1 hall t hm)⟩)
    (by kernel_rfl)
#print axioms proved
end Go.Proofs.YtckicbgffhbacaaDoor.dfaConverts
