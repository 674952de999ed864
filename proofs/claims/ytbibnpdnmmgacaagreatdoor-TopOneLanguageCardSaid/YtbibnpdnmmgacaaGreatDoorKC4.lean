import Derived.Test.YtbibnpdnmmgacaaGreatDoorRows
import Derived.Test.YtbibnpdnmmgacaaGreatDoorCards
import Derived.Test.YtbibnpdnmmgacaaGreatDoorTie
import Derived.Test.YtbibnpdnmmgacaaGreatDoorKZd
import Derived.Test.YtbibnpdnmmgacaaGreatDoorKZv
import Derived.ProofKit
import Derived.OpenShut
import Derived.SizedLaws
import Derived.LaidMore
import Derived.Stop.Joined
import Derived.SevenTiedAt
import Derived.ChangeOld
import Derived.Carry
import Derived.Below
set_option linter.unusedVariables false
set_option linter.unusedSimpArgs false
namespace Go.Proofs.YtbibnpdnmmgacaaGreatDoor.topOneLanguage
open Go.ChangeShapes Go.WideShapes Go.ChangeAt Go.RowKit Go.Sx
open Go.ChangeMaps (open_string shut_string)
theorem params:Tryz.f6.params = #[24]:=rfl
set_option maxRecDepth 100000 in
theorem lifted (os:Os) (started:os.Started) (H:Type) (enc:TypeId × Value→H) :
  ReturnsInHanded {} Tryz.checked os 6 .any (fun w args=>(Rows.topOneLanguageSpec.pre enc Tryz.prog Tryz.f6 [] false w args∧laidMetH Tryz.prog yY w)∧sizedMet enc Tryz.prog Tryz.f6 (OpenSpec.ofChange Rows.topOneLanguageSpec) false w args)
   (Rows.topOneLanguageSpec.post enc Tryz.prog Tryz.f6 false true false false):=by
 refine returnsInHanded_of_change_and (C:=Tryz.checked) (X:=fun w _=>laidMetH Tryz.prog yY w) (fun _ _ _ hh h=>h.of_heap hh) YF started (by kernel_rfl) Tryz.func6
  (ChangeSpec.witness_shaped (enc:=enc) (C:=Tryz.checked) (os:=os) (X:=fun w _=>laidMetH Tryz.prog yY w) false (World.doorLaid Tryz.prog 400 os) #[(.agg #[(.int .i64 0),(.int .i64 0),(.slice none 0 0)])] 8 rfl (World.shaped_of_RefB (by kernel_rfl) (by kernel_rfl)) (by kernel_rfl) (by kernel_rfl) (by kernel_rfl) (L6 os _)) ?_
 intro W base args ds gs before PB hW _ _ hL _
 have M9:∀ (j:Nat) t v,Tryz.f6.params[j]? = some t→args[j]? = some v→Value.okWide Tryz.prog W .any base t v:=PB
 have hW':=hW
 obtain ⟨p,q,hA0,hV,rfl,hfz,O9⟩:=hW
 have hA:DataW.TrodAll enc Tryz.prog W 0 (fun _=>true) true Tryz.f6.params.toList args.toList ds p:=hA0
 rw [params] at hA M9
 have hT:=Oe hL
 obtain ⟨v0,vs0,d0,ds0,p0,q0,aaS,rfl,rfl,h0,r0⟩:=trodAll_cons hA
 obtain ⟨rfl,rfl,rfl⟩:=trodAll_nil r0
 obtain rfl:args = #[v0]:=by cases args;simp_all
 obtain ⟨rfl,rfl⟩:=trodVars_none hV
 have k0:=h0
 have lt0:∀ x∈p0,x.block<W.heap.size:=by obtain ⟨m,hm⟩:=k0;exact DataW.trod_lt m _ _ _ hm
 obtain ⟨ex0,s0,rfl,rd0⟩:=Od (by kernel_rfl) (M9 0 24 v0 rfl rfl) h0
 clear hA0 PB
 refine (Iq W _ _ rd0 hT).mono fun e W' JS=>?_
 obtain ⟨r,o,⟨rfl,rfl⟩,he,YV⟩:=JS
 subst he
 have bel:=YV.1.toBelow
 exact ⟨_,rfl,_,_,_,[],_,[],hW',trodAll_mk1 (shut_bool T8 _),(trodAll_cons_mk (Below.trod laidOut (by kernel_rfl) (of_decide_eq_true (by kernel_rfl)) k0 bel lt0) trodAll_mk0),rfl,bel.frame _,fun h=>by cases h⟩
theorem over:Rows.topOneLanguageRow.holds Tryz.pinned (OpenSpec.ofChange Rows.topOneLanguageSpec):=
 OpenClaim.holds_of_wide 6 Tryz.f6 rfl rfl rfl rfl rfl rfl rfl ⟨rfl,rfl,rfl,rfl,rfl⟩ rfl rfl rfl rfl rfl (by kernel_rfl) Tryz.func6 (by kernel_rfl)
  (of_decide_eq_true (by kernel_rfl)) (by unfold Func.isWrapper;first | (rw [if_pos (by decide +kernel)];kernel_rfl) | (rw [if_neg (by decide +kernel)];exact ⟨rfl,rfl⟩))
  (fun os started H enc _=>lifted os started H enc)
theorem proved:Rows.TopOneLanguageCardSaid:=
 Claim7.holds_tied_plain_at .later [] [.data] true (true,"c978707644e268f6bae3126072e719f6c0d4d125b38ea7621d27e49f19cbaecc") false
  over (fun _ h=>by cases h) (by kernel_rfl) (fun _ h=>by cases h) topOneLanguage_row_tie rfl ⟨rfl,rfl⟩ (by kernel_rfl) rfl
  (fun f fn hf hfn=>by
   obtain rfl:f=6:=Option.some.inj ((show Tryz.prog.funcNamed "semigroup/semigrouptop.TopOneLanguage" = some 6 by kernel_rfl).symm.trans hf) |>.symm
   obtain rfl:fn=Tryz.f6:=(Option.some.inj (Tryz.func6.symm.trans hfn)).symm
   exact ⟨by kernel_rfl,fun j t ht=>by
    rw [params] at ht
    have hm:t∈[24]:=by simpa using Array.mem_of_getElem? ht
    have kA:([24].all fun u=>!Tryz.prog.wantsStandIn u)=true:=by kernel_rfl
    exact (show Tryz.prog.wantsStandIn t=false by simpa using List.all_eq_true.1 kA t hm)⟩)
  (by kernel_rfl)
#print axioms proved
end Go.Proofs.YtbibnpdnmmgacaaGreatDoor.topOneLanguage
