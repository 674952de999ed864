/-
  The law semigrouplaw03.PartitionJoins returns true at every input and leaves what lay there: the given statement Rows.PartitionJoinsSaid. No conditions.
-/
import Derived.Test.YtkdidaiedibhaaaRows
import Derived.Test.YtkdidaiedibhaaaA7
import Derived.Test.YtkdidaiedibhaaaOp
import Derived.ProofKit
import Derived.OpenShut
import Derived.ChangeOld
import Derived.Carry
import Derived.Below
set_option linter.unusedVariables false
set_option linter.unusedSimpArgs false
namespace Go.Proofs.Ytkdidaiedibhaaa.partitionJoins
open Go.ChangeShapes Go.WideShapes Go.ChangeAt Go.RowKit Go.Sx
open Go.ChangeMaps (open_string shut_string)
theorem own : ownKnob Try.prog.godebug = none := by kernel_rfl
theorem laidOut : laidOutB Try.prog = true := by kernel_rfl
theorem params : Try.f13.params = #[3, 31, 31, 22] := rfl
set_option maxRecDepth 100000 in
theorem lifted (os : Os) (started : os.Started) (H : Type) (enc : TypeId × Value → H) :
    ReturnsInHanded {} Try.checked os 13 .any (Rows.partitionJoinsSpec.pre6 enc Try.prog Try.f13 Rows.partitionJoinsRow.domain false) (Rows.partitionJoinsSpec.post enc Try.prog Try.f13 false true false false) := by
  refine returnsInHanded_of_change (C := Try.checked) own started (by kernel_rfl) Try.func13
    (ChangeSpec.witness6 (enc := enc) (C := Try.checked) false ⟨#[], #[(.int .i64 0), (.slice none 0 0), (.slice none 0 0), (.slice none 0 0)], []⟩ 8 (by kernel_rfl) (by kernel_rfl) (by kernel_rfl) (by kernel_rfl)) ?_
  intro W base args ds gs before hval0 hW hcnd _
  have hval : ∀ (j : Nat) t v, Try.f13.params[j]? = some t → args[j]? = some v → Value.okWide Try.prog W .any base t v := hval0
  have hW' := hW
  obtain ⟨p, q, hA0, hV, rfl, hfz, hnd⟩ := hW
  have hA : DataW.TrodAll enc Try.prog W 0 (fun _ => true) true Try.f13.params.toList args.toList ds p := hA0
  rw [params] at hA hval
  obtain ⟨v0, vs0, d0, ds0, p0, q0, hargs, rfl, rfl, h0, r0⟩ := trodAll_cons hA
  obtain ⟨v1, vs1, d1, ds1, p1, q1, rfl, rfl, rfl, h1, r1⟩ := trodAll_cons r0
  obtain ⟨v2, vs2, d2, ds2, p2, q2, rfl, rfl, rfl, h2, r2⟩ := trodAll_cons r1
  obtain ⟨v3, vs3, d3, ds3, p3, q3, rfl, rfl, rfl, h3, r3⟩ := trodAll_cons r2
  obtain ⟨rfl, rfl, rfl⟩ := trodAll_nil r3
  obtain rfl : args = #[v0, v1, v2, v3] := by cases args; simp_all
  obtain ⟨rfl, rfl⟩ := trodVars_none hV
  obtain ⟨a0, rfl, rfl, rfl, w0⟩ := open_int un3 (hval 0 3 v0 rfl rfl) h0
  have k1 := h1
  have lt1 : ∀ x ∈ p1, x.block < W.heap.size := by obtain ⟨m, hm⟩ := k1; exact DataW.trod_lt m _ _ _ hm
  obtain ⟨b1, len1, cap1, rfl⟩ := okWide_slice sl31.1 (hval 1 31 v1 rfl rfl)
  obtain ⟨xs1, w1, wf1⟩ := open_rdp sl31.1 ar42.1 un3 (by kernel_rfl) (by kernel_rfl) h1
  have k2 := h2
  have lt2 : ∀ x ∈ p2, x.block < W.heap.size := by obtain ⟨m, hm⟩ := k2; exact DataW.trod_lt m _ _ _ hm
  obtain ⟨b2, len2, cap2, rfl⟩ := okWide_slice sl31.1 (hval 2 31 v2 rfl rfl)
  obtain ⟨xs2, w2, wf2⟩ := open_rdp sl31.1 ar42.1 un3 (by kernel_rfl) (by kernel_rfl) h2
  have k3 := h3
  have lt3 : ∀ x ∈ p3, x.block < W.heap.size := by obtain ⟨m, hm⟩ := k3; exact DataW.trod_lt m _ _ _ hm
  obtain ⟨b3, len3, cap3, rfl⟩ := okWide_slice sl22.1 (hval 3 22 v3 rfl rfl)
  obtain ⟨xs3, w3, wf3⟩ := open_rdi sl22.1 un3 (by kernel_rfl) h3
  clear hA0 hval0
  refine (l_joins W _ _ _ _ xs1 xs2 xs3 w1 w2 w3).mono fun e W' hpost => ?_
  obtain ⟨r, o, ⟨rfl, rfl⟩, he, hret⟩ := hpost
  subst he
  have bel := hret.1.toBelow
  exact ⟨_, rfl, _, _, _, [], _, [], hW', trodAll_mk1 (shut_bool bo4 _), (trodAll_cons_mk (shut_int un3 w0) (trodAll_cons_mk (Below.trod laidOut (by kernel_rfl) (of_decide_eq_true (by kernel_rfl)) k1 bel lt1) (trodAll_cons_mk (Below.trod laidOut (by kernel_rfl) (of_decide_eq_true (by kernel_rfl)) k2 bel lt2) (trodAll_cons_mk (Below.trod laidOut (by kernel_rfl) (of_decide_eq_true (by kernel_rfl)) k3 bel lt3) trodAll_mk0)))), rfl, bel.frame _, fun h => by cases h⟩

theorem over : Rows.partitionJoinsRow.holds Try.pinned (OpenSpec.ofChange Rows.partitionJoinsSpec) :=
  OpenClaim.holds_of_wide 13 Try.f13 rfl rfl rfl rfl rfl rfl rfl ⟨rfl, rfl, rfl, rfl, rfl⟩ rfl rfl rfl rfl rfl (by kernel_rfl) Try.func13 (by kernel_rfl)
    (of_decide_eq_true (by kernel_rfl)) (by unfold Func.isWrapper; first | (rw [if_pos (by decide +kernel)]; kernel_rfl) | (rw [if_neg (by decide +kernel)]; exact ⟨rfl, rfl⟩))
    (fun os started H enc _ => lifted os started H enc)
theorem proved : Rows.PartitionJoinsSaid := over
#print axioms proved
end Go.Proofs.Ytkdidaiedibhaaa.partitionJoins
