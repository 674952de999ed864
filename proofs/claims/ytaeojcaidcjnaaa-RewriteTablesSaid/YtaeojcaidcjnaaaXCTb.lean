/-
  The law semigrouplaw13.RewriteTables returns true at every input and leaves what lay there: the given statement Rows.RewriteTablesSaid. No conditions.
-/
import Derived.Test.YtaeojcaidcjnaaaRows
import Derived.Test.YtaeojcaidcjnaaaXWq
import Derived.Test.YtaeojcaidcjnaaaXOu
import Derived.ProofKit
import Derived.OpenShut
import Derived.HandedShaped
import Derived.ChangeOld
import Derived.Carry
import Derived.Below
set_option linter.unusedVariables false
set_option linter.unusedSimpArgs false
namespace Go.Proofs.Ytaeojcaidcjnaaa.rewriteTables
open Go.ChangeShapes Go.WideShapes Go.ChangeAt Go.RowKit Go.Sx
open Go.ChangeMaps (open_string shut_string)
theorem own : ownKnob Try.prog.godebug = none := by kernel_rfl
theorem laidOut : laidOutB Try.prog = true := by kernel_rfl
theorem params : Try.f12.params = #[22, 3, 4] := rfl
set_option maxRecDepth 100000 in
theorem lifted (os : Os) (started : os.Started) (H : Type) (enc : TypeId × Value → H) :
    ReturnsInHanded {} Try.checked os 12 .any (Rows.rewriteTablesSpec.pre6 enc Try.prog Try.f12 Rows.rewriteTablesRow.domain false) (Rows.rewriteTablesSpec.post enc Try.prog Try.f12 false true false false) := by
  refine returnsInHanded_of_change_shaped (C := Try.checked) own started (by kernel_rfl) Try.func12
    (ChangeSpec.witness6 (enc := enc) (C := Try.checked) false ⟨#[], #[(.slice none 0 0), (.int .i64 0), (.bool false)], []⟩ 8 (by kernel_rfl) (by kernel_rfl) (by kernel_rfl) (by kernel_rfl)) ?_
  intro W base args ds gs before hval0 hW hcnd hsz0 hsh _
  have hval : ∀ (j : Nat) t v, Try.f12.params[j]? = some t → args[j]? = some v → Value.okWide Try.prog W .any base t v := hval0
  have hW' := hW
  obtain ⟨p, q, hA0, hV, rfl, hfz, hnd⟩ := hW
  have hA : DataW.TrodAll enc Try.prog W 0 (fun _ => true) true Try.f12.params.toList args.toList ds p := hA0
  rw [params] at hA hval
  obtain ⟨v0, vs0, d0, ds0, p0, q0, hargs, rfl, rfl, h0, r0⟩ := trodAll_cons hA
  obtain ⟨v1, vs1, d1, ds1, p1, q1, rfl, rfl, rfl, h1, r1⟩ := trodAll_cons r0
  obtain ⟨v2, vs2, d2, ds2, p2, q2, rfl, rfl, rfl, h2, r2⟩ := trodAll_cons r1
  obtain ⟨rfl, rfl, rfl⟩ := trodAll_nil r2
  obtain rfl : args = #[v0, v1, v2] := by cases args; simp_all
  obtain ⟨rfl, rfl⟩ := trodVars_none hV
  have k0 := h0
  have lt0 : ∀ x ∈ p0, x.block < W.heap.size := by obtain ⟨m, hm⟩ := k0; exact DataW.trod_lt m _ _ _ hm
  obtain ⟨b0, len0, cap0, rfl⟩ := okWide_slice sl22.1 (hval 0 22 v0 rfl rfl)
  obtain ⟨xs0, w0, wf0⟩ := open_ru sl22.1 (by kernel_rfl) h0
  obtain ⟨a1, rfl, rfl, rfl, w1⟩ := open_int un3 (hval 1 3 v1 rfl rfl) h1
  obtain ⟨a2, rfl, rfl, rfl⟩ := open_bool bo4 (hval 2 4 v2 rfl rfl) h2
  clear hA0 hval0
  refine (l_tables W _ xs0 w0 wf0 a1 a2 (Try.laysM144.s1_3 W hsh)).mono fun e W' hpost => ?_
  obtain ⟨r, o, ⟨rfl, rfl⟩, he, hret⟩ := hpost
  subst he
  have bel := hret.1.toBelow
  exact ⟨_, rfl, _, _, _, [], _, [], hW', trodAll_mk1 (shut_bool bo4 _), (trodAll_cons_mk (Below.trod laidOut (by kernel_rfl) (of_decide_eq_true (by kernel_rfl)) k0 bel lt0) (trodAll_cons_mk (shut_int un3 w1) (trodAll_cons_mk (shut_bool bo4 a2) trodAll_mk0))), rfl, bel.frame _, fun h => by cases h⟩

theorem over : Rows.rewriteTablesRow.holds Try.pinned (OpenSpec.ofChange Rows.rewriteTablesSpec) :=
  OpenClaim.holds_of_wide 12 Try.f12 rfl rfl rfl rfl rfl rfl rfl ⟨rfl, rfl, rfl, rfl, rfl⟩ rfl rfl rfl rfl rfl (by kernel_rfl) Try.func12 (by kernel_rfl)
    (of_decide_eq_true (by kernel_rfl)) (by unfold Func.isWrapper; first | (rw [if_pos (by decide +kernel)]; kernel_rfl) | (rw [if_neg (by decide +kernel)]; exact ⟨rfl, rfl⟩))
    (fun os started H enc _ => lifted os started H enc)
theorem proved : Rows.RewriteTablesSaid := over
#print axioms proved
end Go.Proofs.Ytaeojcaidcjnaaa.rewriteTables
