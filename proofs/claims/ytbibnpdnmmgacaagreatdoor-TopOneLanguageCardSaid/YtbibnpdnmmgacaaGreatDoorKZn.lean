import Derived.Test.YtbibnpdnmmgacaaGreatDoorKZm
import Derived.Test.YtbibnpdnmmgacaaGreatDoorKZi
set_option linter.unusedVariables false
set_option linter.unusedSimpArgs false
set_option maxRecDepth 100000
namespace Go.Proofs.YtbibnpdnmmgacaaGreatDoor
open Go.Sx Go.RowKit
set_option maxHeartbeats 4000000 in
theorem E1 (a:Int) (nm:Bool) (e:Ex) (ih:∀ i,i<e.kids.length→JJ a nm (e.kids.getD i default)) (w:World) (F:Nat→Prop) (B:Bs) (l:List cw) (hB:gI B w F) (hA:(aI B l).holds w F) (s:Value) (hm:cw.deep s e.kids∈l) (d:Dv) (hd:eM a nm e=some d):ck Tryz.prog 103 [.agg #[.int .i64 a,.bool nm],.agg #[.int .i64 e.op,.int .i64 e.lt,s]] w F (fun r A o=>∃ sb sf l',r = .agg #[.int .i64 d.1.op,.int .i64 d.1.lt,sb,.int .i64 d.2.1.op,.int .i64 d.2.1.lt,sf,.bool d.2.2]∧aB sb∧aB sf∧A=aI B l'∧(∀ x∈l,x∈l')∧cw.deep sb d.1.kids∈l'∧cw.deep sf d.2.1.kids∈l'∧o=[]):=by
 refine cu Tryz.func103 rfl (aT rfl) hA ?_
 refine .rQ 0 rfl hm fun l1 ss h2=>?_
 have MM:=h2.ME
 refine .sr fun _ bl=>?_
 refine .cS (E:=144) (cs:=[.int .i64 a,.bool nm]) rfl rfl rfl trivial rfl (fun eu=>?_)
 refine .cS (E:=24) (cs:=[.int .i64 e.op,.int .i64 e.lt,s]) rfl rfl rfl trivial rfl (fun ga=>?_)
 refine .alloc qx rfl rfl trivial rfl (fun iD=>?_)
 refine .nt bl ?_
 refine .sr fun _ bg=>?_
 refine .v (.build (parts:=[(0,.const (.int .i64 1))]) (cs:=#[.int .i64 aP.op,.int .i64 aP.lt,.slice none 0 0]) rfl (by kernel_rfl)) ?_
 refine .v (.build (parts:=[(0,.const (.int .i64 2))]) (cs:=#[.int .i64 bu.op,.int .i64 bu.lt,.slice none 0 0]) rfl (by kernel_rfl)) ?_
 refine .alloc cC rfl rfl trivial rfl (fun D4=>?_)
 refine .alloc cC rfl rfl trivial rfl (fun oy=>?_)
 refine .ah 4 (us:=[.int .i64 aP.op,.int .i64 aP.lt,aW]) (cs':=[.int .i64 aP.op,.int .i64 aP.lt,aW]) rfl cy rfl rfl rfl rfl aJ (aT rfl) rfl trivial ?_
 refine .ah 5 (us:=[.int .i64 bu.op,.int .i64 bu.lt,aW]) (cs':=[.int .i64 bu.op,.int .i64 bu.lt,aW]) rfl cy rfl rfl rfl rfl aJ (aT rfl) rfl trivial ?_
 refine .nt bg ?_
 refine .seq fun _ bW=>?_
 refine .sr fun _ cr=>?_
 refine .v (.fieldAddr cP rfl) (.v (.aa cQ rfl ax rfl) (.nt cr (.block ?_)))
 refine .sr fun _ cJ=>?_
 refine .v (.eql rfl rfl) (.as rfl (.nt cJ ?_))
 refine .aA rfl (fun bx=>?_) (fun bx=>?_)
 ·refine .sr fun _ cU=>?_
  refine .v (.ak aM rfl ax rfl rfl) (.v (.ak aM rfl ax rfl rfl) ?_)
  refine .v (.build (parts:=[(0,.tmp 15),(1,.tmp 16),(2,.const (.bool true))]) (cs:=#[.int .i64 aP.op,.int .i64 aP.lt,aW,.int .i64 bu.op,.int .i64 bu.lt,aW,.bool true]) rfl (by kernel_rfl)) ?_
  refine .ah 3 (us:=[.int .i64 aP.op,.int .i64 aP.lt,aW,.int .i64 bu.op,.int .i64 bu.lt,aW,.bool true]) (cs':=[.int .i64 aP.op,.int .i64 aP.lt,aW,.int .i64 bu.op,.int .i64 bu.lt,aW,.bool true]) rfl iq rfl rfl rfl rfl aJ (aT rfl) rfl trivial ?_
  refine .nt cU (.ret (.al (.ae ?_)))
  refine .np 0 (.deep aW []) rfl (fun R=>dy.nil R) (fun l2 dX gG=>?_)
  refine .cO [.cell 4 142] rfl (.cons (.cell jH rfl ax rfl rfl) (.nil)) (fun w hw=>⟨_,_,_,?_,rfl,.of (hw.pk [0])⟩)
  obtain rfl:=Fe hd bx
  exact ⟨aW,aW,l2,rfl,cq,cq,rfl,fun y hy=>dX _ (h2.sub y hy),gG,gG,rfl⟩
 ·refine .sr fun _ c7=>?_
  refine .v (.eql rfl rfl) (.as rfl (.nt c7 ?_))
  refine .aA rfl (fun cB=>?_) (fun cB=>?_)
  ·refine .seq fun _ dm=>?_
   refine .sr fun _ dD=>?_
   refine .v (.fieldAddr gr rfl) (.v (.aa cQ rfl ax rfl) (.v (.fieldAddr OI rfl) (.v (.aa cQ rfl ax rfl) (.v (.eql rfl rfl) (.nt dD ?_)))))
   refine .aA rfl (fun cZ=>?_) (fun cZ=>?_)
   ·refine .region ?_
    refine .v (.ak aM rfl ax rfl rfl) ?_
    refine .ah 4 (us:=[.int .i64 bu.op,.int .i64 bu.lt,aW]) (cs':=[.int .i64 bu.op,.int .i64 bu.lt,aW]) rfl cy rfl rfl rfl rfl aJ (aT rfl) rfl trivial ?_
    refine .nt dm ?_
    refine .sr fun _ bJ=>?_
    refine .v (.ak aM rfl ax rfl rfl) (.v (.fieldAddr gr rfl) (.v (.aa cQ rfl ax rfl) ?_))
    refine .v (.build (parts:=[(0,.const (.int .i64 3)),(1,.tmp 28)]) (cs:=#[.int .i64 3,.int .i64 e.lt,.slice none 0 0]) rfl (by kernel_rfl)) ?_
    refine .v (.build (parts:=[(0,.tmp 26),(1,.tmp 29),(2,.const (.bool false))]) (cs:=#[.int .i64 bu.op,.int .i64 bu.lt,aW,.int .i64 (Ex.mk 3 e.lt []).op,.int .i64 (Ex.mk 3 e.lt []).lt,aW,.bool false]) rfl (by kernel_rfl)) ?_
    refine .ah 3 (us:=[.int .i64 bu.op,.int .i64 bu.lt,aW,.int .i64 (Ex.mk 3 e.lt []).op,.int .i64 (Ex.mk 3 e.lt []).lt,aW,.bool false]) (cs':=[.int .i64 bu.op,.int .i64 bu.lt,aW,.int .i64 (Ex.mk 3 e.lt []).op,.int .i64 (Ex.mk 3 e.lt []).lt,aW,.bool false]) rfl iq rfl rfl rfl rfl aJ (aT rfl) rfl trivial ?_
    refine .nt bJ (.ret (.al (.ae ?_)))
    refine .np 0 (.deep aW []) rfl (fun R=>dy.nil R) (fun l2 dX gG=>?_)
    refine .cO [.cell 4 142] rfl (.cons (.cell jH rfl ax rfl rfl) (.nil)) (fun w hw=>⟨_,_,_,?_,rfl,.of (hw.pk [0])⟩)
    obtain rfl:=zL hd cB
    rw [if_pos cZ]
    exact ⟨aW,aW,l2,rfl,cq,cq,rfl,fun y hy=>dX _ (h2.sub y hy),gG,gG,rfl⟩
   ·refine .skip ?_
    refine .ab (dm _ ?_)
    refine .sr fun _ bP=>?_
    refine .v (.ak aM rfl ax rfl rfl) (.v (.fieldAddr gr rfl) (.v (.aa cQ rfl ax rfl) ?_))
    refine .v (.build (parts:=[(0,.const (.int .i64 3)),(1,.tmp 28)]) (cs:=#[.int .i64 3,.int .i64 e.lt,.slice none 0 0]) rfl (by kernel_rfl)) ?_
    refine .v (.build (parts:=[(0,.tmp 26),(1,.tmp 29),(2,.const (.bool false))]) (cs:=#[.int .i64 aP.op,.int .i64 aP.lt,aW,.int .i64 (Ex.mk 3 e.lt []).op,.int .i64 (Ex.mk 3 e.lt []).lt,aW,.bool false]) rfl (by kernel_rfl)) ?_
    refine .ah 3 (us:=[.int .i64 aP.op,.int .i64 aP.lt,aW,.int .i64 (Ex.mk 3 e.lt []).op,.int .i64 (Ex.mk 3 e.lt []).lt,aW,.bool false]) (cs':=[.int .i64 aP.op,.int .i64 aP.lt,aW,.int .i64 (Ex.mk 3 e.lt []).op,.int .i64 (Ex.mk 3 e.lt []).lt,aW,.bool false]) rfl iq rfl rfl rfl rfl aJ (aT rfl) rfl trivial ?_
    refine .nt bP (.ret (.al (.ae ?_)))
    refine .np 0 (.deep aW []) rfl (fun R=>dy.nil R) (fun l2 dX gG=>?_)
    refine .cO [.cell 4 142] rfl (.cons (.cell jH rfl ax rfl rfl) (.nil)) (fun w hw=>⟨_,_,_,?_,rfl,.of (hw.pk [0])⟩)
    obtain rfl:=zL hd cB
    rw [if_neg cZ]
    exact ⟨aW,aW,l2,rfl,cq,cq,rfl,fun y hy=>dX _ (h2.sub y hy),gG,gG,rfl⟩
  ·refine .seq fun _ ct=>?_
   refine .sr fun _ cK=>?_
   refine .v (.eql rfl rfl) (.as rfl (.nt cK ?_))
   refine .aA rfl (fun iz=>?_) (fun iz=>?_)
   ·refine .skip ?_
    refine .ab (ct _ ?_)
    refine .cD rfl (decide_eq_true iz) ?_
    refine .sr fun _ cW=>?_
    refine .v (.ak uS rfl ax rfl rfl) (.v (.ak aM rfl ax rfl rfl) ?_)
    refine .aY 0 rfl J3 rfl (fun w Fs hw hh bI bc=>tX a nm e (by omega) ih w (Fs 0) B l1 (hB.later bI bc 0) (hh.at_ 0 _ rfl) s (h2.sub _ hm) d hd) trivial rfl ?_
    rintro r A o ⟨sb,sf,l2,rfl,yn,BO,rfl,dX,BV,BU,rfl⟩
    refine .ah 3 (us:=[.int .i64 d.1.op,.int .i64 d.1.lt,sb,.int .i64 d.2.1.op,.int .i64 d.2.1.lt,sf,.bool d.2.2]) (cs':=[.int .i64 d.1.op,.int .i64 d.1.lt,sb,.int .i64 d.2.1.op,.int .i64 d.2.1.lt,sf,.bool d.2.2]) rfl iq rfl rfl rfl rfl aJ (aT rfl) rfl trivial ?_
    refine .nt cW (.ret (.al (.ae ?_)))
    refine .cO [.cell 4 142] rfl (.cons (.cell jH rfl ax rfl rfl) (.nil)) (fun w hw=>⟨_,_,_,?_,rfl,.of (hw.pk [0])⟩)
    exact ⟨sb,sf,l2,rfl,yn,BO,rfl,fun y hy=>dX _ (h2.sub y hy),BV,BU,rfl⟩
   ·refine .sr fun _ c8=>?_
    refine .v (.eql rfl rfl) (.as rfl (.nt c8 ?_))
    refine .aA rfl (fun gn=>?_) (fun gn=>?_)
    ·refine .skip ?_
     refine .ab (ct _ ?_)
     refine .cD rfl (decide_eq_true gn) ?_
     refine .sr fun _ dw=>?_
     refine .v (.ak uS rfl ax rfl rfl) (.v (.ak aM rfl ax rfl rfl) ?_)
     refine .aY 0 rfl J3 rfl (fun w Fs hw hh bI bc=>tX a nm e (by omega) ih w (Fs 0) B l1 (hB.later bI bc 0) (hh.at_ 0 _ rfl) s (h2.sub _ hm) d hd) trivial rfl ?_
     rintro r A o ⟨sb,sf,l2,rfl,yn,BO,rfl,dX,BV,BU,rfl⟩
     refine .ah 3 (us:=[.int .i64 d.1.op,.int .i64 d.1.lt,sb,.int .i64 d.2.1.op,.int .i64 d.2.1.lt,sf,.bool d.2.2]) (cs':=[.int .i64 d.1.op,.int .i64 d.1.lt,sb,.int .i64 d.2.1.op,.int .i64 d.2.1.lt,sf,.bool d.2.2]) rfl iq rfl rfl rfl rfl aJ (aT rfl) rfl trivial ?_
     refine .nt dw (.ret (.al (.ae ?_)))
     refine .cO [.cell 4 142] rfl (.cons (.cell jH rfl ax rfl rfl) (.nil)) (fun w hw=>⟨_,_,_,?_,rfl,.of (hw.pk [0])⟩)
     exact ⟨sb,sf,l2,rfl,yn,BO,rfl,fun y hy=>dX _ (h2.sub y hy),BV,BU,rfl⟩
    ·refine .region ?_
     refine .v (.eql rfl rfl) (.as rfl (.nt ct ?_))
     refine .aA rfl (fun qp=>?_) (fun qp=>?_)
     ·refine .sr fun _ dE=>?_
      refine .v (.ak uS rfl ax rfl rfl) (.v (.ak aM rfl ax rfl rfl) ?_)
      refine .aY 0 rfl J3 rfl (fun w Fs hw hh bI bc=>tX a nm e (by omega) ih w (Fs 0) B l1 (hB.later bI bc 0) (hh.at_ 0 _ rfl) s (h2.sub _ hm) d hd) trivial rfl ?_
      rintro r A o ⟨sb,sf,l2,rfl,yn,BO,rfl,dX,BV,BU,rfl⟩
      refine .ah 3 (us:=[.int .i64 d.1.op,.int .i64 d.1.lt,sb,.int .i64 d.2.1.op,.int .i64 d.2.1.lt,sf,.bool d.2.2]) (cs':=[.int .i64 d.1.op,.int .i64 d.1.lt,sb,.int .i64 d.2.1.op,.int .i64 d.2.1.lt,sf,.bool d.2.2]) rfl iq rfl rfl rfl rfl aJ (aT rfl) rfl trivial ?_
      refine .nt dE (.ret (.al (.ae ?_)))
      refine .cO [.cell 4 142] rfl (.cons (.cell jH rfl ax rfl rfl) (.nil)) (fun w hw=>⟨_,_,_,?_,rfl,.of (hw.pk [0])⟩)
      exact ⟨sb,sf,l2,rfl,yn,BO,rfl,fun y hy=>dX _ (h2.sub y hy),BV,BU,rfl⟩
     ·refine .sr fun _ dR=>?_
      refine .v (.eql rfl rfl) (.as rfl (.nt dR ?_))
      refine .aA rfl (fun ka=>?_) (fun ka=>?_)
      ·obtain ⟨k0,s1,b,Jt,vm,hj1,hj2,rfl⟩:=Ff hd ka
       have Xe:=h2.qd 0 Jt
       refine .seq fun _ dO=>?_
       refine .oM (X:=Value × Value × List cw × Nat) [(4,_)] (fun z=>[(7,.pointer (some ⟨z.2.2.2,0,none⟩))]) (fun z=>[aI B z.2.2.1,box eu 144 2 [.int .i64 a,.bool nm],box ga 24 3 [.int .i64 e.op,.int .i64 e.lt,s],box iD 142 7 [.int .i64 0,.int .i64 0,.slice none 0 0,.int .i64 0,.int .i64 0,.slice none 0 0,.bool false],box D4 24 3 [.int .i64 aP.op,.int .i64 aP.lt,aW],box oy 24 3 [.int .i64 bu.op,.int .i64 bu.lt,aW],box z.2.2.2 142 7 [.int .i64 k0.1.op,.int .i64 k0.1.lt,z.1,.int .i64 k0.2.1.op,.int .i64 k0.2.1.lt,z.2.1,.bool k0.2.2]]) (fun z=>aB z.1∧aB z.2.1∧(∀ y∈l1,y∈z.2.2.1)∧cw.deep z.1 k0.1.kids∈z.2.2.1∧cw.deep z.2.1 k0.2.1.kids∈z.2.2.1) aU (fun _ hJ=>?_) (fun z hg=>?_)
       ·try (conv=>enter [2,2];simp only [cE])
        refine .jG [aI B l1,box eu 144 2 [.int .i64 a,.bool nm],box ga 24 3 [.int .i64 e.op,.int .i64 e.lt,s]] 7 (fun _ hw=>by first | exact hw.pk [0,1,2] | (have h:=HW.bH 0 rfl dX (hw.pk [0,1,2]);exact h)) mixed ?_
        refine .eO (fun _ hw=>by first | exact hw.pk [0,1,2] | (have h:=HW.bH 0 rfl dX (hw.pk [0,1,2]);exact h)) 0 (fuel:=7) (cm:=(lb 8 1)) _ rfl cx cx rfl (.ak uS rfl ax rfl rfl) trivial rfl ?_
        refine .eO (fun _ hw=>by first | exact hw.pk [0,1,2] | (have h:=HW.bH 0 rfl dX (hw.pk [0,1,2]);exact h)) 1 (fuel:=6) (cm:=(lb 8 3)) _ rfl cx cx rfl (.fieldAddr bM rfl) trivial rfl ?_
        refine .eO (fun _ hw=>by first | exact hw.pk [0,1,2] | (have h:=HW.bH 0 rfl dX (hw.pk [0,1,2]);exact h)) 2 (fuel:=5) (cm:=(lb 8 7)) _ rfl cx cx rfl (.aa du rfl ax rfl) trivial rfl ?_
        refine .eO (fun _ hw=>by first | exact hw.pk [0,1,2] | (have h:=HW.bH 0 rfl dX (hw.pk [0,1,2]);exact h)) 3 (fuel:=4) (cm:=(lb 8 15)) _ rfl cx cx rfl (.qi (k:=0) aR rfl rfl (by exact cR.tree hB 0 rfl h2.rw) (by decide) (by omega)) trivial rfl ?_
        refine .eO (fun _ hw=>by first | exact hw.pk [0,1,2] | (have h:=HW.bH 0 rfl dX (hw.pk [0,1,2]);exact h)) 4 (fuel:=3) (cm:=(lb 8 31)) _ rfl cx cx rfl (.da aM rfl (by exact cR.tree hB 0 rfl h2.rw) h2.len rfl (by omega)) trivial rfl ?_
        refine .two 5 6 (fuel:=2) (fD:=(lb 8 63)) (fC:=(lb 8 95)) cx rfl rfl cx cx ?_ ?_
        ·refine .aY 0 rfl Cy rfl (fun w Fs hw hh bI bc=>ih 0 Jt w (Fs 0) B l1 (hB.later bI bc 0) (hh.at_ 0 _ rfl) _ (h2.th 0 Jt) k0 vm) trivial rfl ?_
         rintro r A o ⟨Qt,Qs,l2,rfl,QX,QW,rfl,dX,Re,Rc,rfl⟩
         refine .nil ?_
         try (conv=>enter [2,2];simp only [cE])
         refine ay.bo (fun _ hw=>by first | exact hw.pk [0,1,2] | (have h:=HW.bH 0 rfl dX (hw.pk [0,1,2]);exact h)) ?_
         refine .O 6 1 8 127 rfl ?_
         refine .alloc qx rfl rfl trivial rfl (fun oe=>?_)
         refine .nil ?_
         try (conv=>enter [2,2];simp only [cE])
         refine ay.bo (fun _ hw=>by first | exact hw.pk [0,1,2] | (have h:=HW.bH 0 rfl dX (hw.pk [0,1,2]);exact h)) ?_
         refine .O 7 0 8 255 rfl ?_
         refine .ah 6 (us:=[.int .i64 k0.1.op,.int .i64 k0.1.lt,Qt,.int .i64 k0.2.1.op,.int .i64 k0.2.1.lt,Qs,.bool k0.2.2]) (cs':=[.int .i64 k0.1.op,.int .i64 k0.1.lt,Qt,.int .i64 k0.2.1.op,.int .i64 k0.2.1.lt,Qs,.bool k0.2.2]) rfl iq rfl rfl rfl rfl aJ (aT rfl) rfl trivial ?_
         refine .nil ?_
         try (conv=>enter [2,2];simp only [cE])
         refine ay.ir 8 cx rfl cx ?_
         refine .nil ?_
         refine .fu ?_
         exact hJ _ _ ((Qt,Qs,l2,oe)) ⟨QX,QW,dX,Re,Rc⟩ (aU) (fun w hw=>by first | exact hw.dG [0,1,2,3,4,5,6] (by decide) qn)
        ·refine .alloc qx rfl rfl trivial rfl (fun oe=>?_)
         refine .nil ?_
         try (conv=>enter [2,2];simp only [cE])
         refine ay.bo (fun _ hw=>by first | exact hw.pk [0,1,2] | (have h:=HW.bH 0 rfl dX (hw.pk [0,1,2]);exact h)) ?_
         refine .O 5 1 8 127 rfl ?_
         refine .aY 0 rfl Cy rfl (fun w Fs hw hh bI bc=>ih 0 Jt w (Fs 0) B l1 (hB.later bI bc 0) (hh.at_ 0 _ rfl) _ (h2.th 0 Jt) k0 vm) trivial rfl ?_
         rintro r A o ⟨Qt,Qs,l2,rfl,QX,QW,rfl,dX,Re,Rc,rfl⟩
         refine .nil ?_
         try (conv=>enter [2,2];simp only [cE])
         refine ay.bo (fun _ hw=>by first | exact hw.pk [0,1,2] | (have h:=HW.bH 0 rfl dX (hw.pk [0,1,2]);exact h)) ?_
         refine .O 7 0 8 255 rfl ?_
         refine .ah 6 (us:=[.int .i64 k0.1.op,.int .i64 k0.1.lt,Qt,.int .i64 k0.2.1.op,.int .i64 k0.2.1.lt,Qs,.bool k0.2.2]) (cs':=[.int .i64 k0.1.op,.int .i64 k0.1.lt,Qt,.int .i64 k0.2.1.op,.int .i64 k0.2.1.lt,Qs,.bool k0.2.2]) rfl iq rfl rfl rfl rfl aJ (aT rfl) rfl trivial ?_
         refine .nil ?_
         try (conv=>enter [2,2];simp only [cE])
         refine ay.ir 8 cx rfl cx ?_
         refine .nil ?_
         refine .fu ?_
         exact hJ _ _ ((Qt,Qs,l2,oe)) ⟨QX,QW,dX,Re,Rc⟩ (aU) (fun w hw=>by first | exact hw.dG [0,1,2,3,4,5,6] (by decide) qn)
       ·have Hi:=hg.1
        have Hh:=hg.2.1
        refine .ab (dO _ ?_)
        refine .sr fun _ eJ=>?_
        refine .v (.fieldAddr Bu rfl) (.v (.ak aM rfl ax rfl rfl) ?_)
        refine .lit (xs:=[.tmp 47]) aR cC rfl rfl rfl (by simp [Value.cells]) (by decide) (by decide) trivial rfl (fun lv=>?_)
        refine .close' 0 7 [k0.2.1] [z.2.1] (by decide) rfl rfl rfl rfl rfl (mz hg.2.2.2.2) (fun l3 pz DT hr3=>?_)
        refine .aY 0 rfl nZ rfl (fun w Fs hw hh bI bc=>ki w (Fs 0) B l3 (hB.later bI bc 0) (hh.at_ 0 _ rfl) 7 _ _ DT s1 hj1) trivial rfl ?_
        rintro r A o ⟨sf,l4,rfl,BO,rfl,rD,DS,rfl⟩
        refine .alloc cC rfl rfl trivial rfl (fun lP=>?_)
        refine .ah 8 (us:=[.int .i64 s1.op,.int .i64 s1.lt,sf]) (cs':=[.int .i64 s1.op,.int .i64 s1.lt,sf]) rfl cy rfl rfl rfl rfl aJ (aT rfl) rfl trivial ?_
        refine .nt eJ ?_
        refine .seq fun _ eY=>?_
        try (conv=>enter [2,2];simp only [cE])
        refine .jG _ 7 (fun _ hw=>hw.pk [6,8]) mixed ?_
        refine .FS (fun _ hw=>hw.pk [6,8]) 0 7 8 1 rfl (.fieldAddr r9 rfl) trivial ?_
        refine .FS (fun _ hw=>hw.pk [6,8]) 1 6 8 3 rfl (.ak aM rfl ax rfl rfl) trivial ?_
        refine .FS (fun _ hw=>hw.pk [6,8]) 2 5 8 7 rfl (.ak aM rfl ax rfl rfl) trivial ?_
        refine .FS (fun _ hw=>hw.pk [6,8]) 5 4 8 39 rfl (.ak aM rfl ax rfl rfl) trivial ?_
        refine .O 3 3 8 47 rfl ?_
        refine .lit (xs:=[.tmp 51,.tmp 52]) aR cC rfl rfl rfl (by simp [Value.cells]) (by decide) (by decide) trivial rfl (fun lw=>?_)
        refine .nil ?_
        try (conv=>enter [2,2];simp only [cE])
        refine ay.bo (fun _ hw=>hw.pk [6,8]) ?_
        refine .O 4 2 8 63 rfl ?_
        refine .close' 0 9 [k0.1,s1] [z.1,sf] (by decide) rfl rfl rfl rfl rfl (KR (rD _ (pz _ hg.2.2.2.1)) DS) (fun l5 ti Hn Qz=>?_)
        refine .aY 0 rfl nZ rfl (fun w Fs hw hh bI bc=>ki w (Fs 0) B l5 (hB.later bI bc 0) (hh.at_ 0 _ rfl) 5 _ _ Hn b hj2) trivial rfl ?_
        rintro r A o ⟨sb,l6,rfl,yn,rfl,yd,Mv,rfl⟩
        refine .nil ?_
        try (conv=>enter [2,2];simp only [cE])
        refine ay.bo (fun _ hw=>hw.pk [6,8]) ?_
        refine .FS (fun _ hw=>hw.pk [6,8]) 6 1 8 127 rfl (.build (parts:=[(0,.tmp 54),(1,.tmp 55),(2,.const (.bool true))]) (cs:=#[.int .i64 b.op,.int .i64 b.lt,sb,.int .i64 s1.op,.int .i64 s1.lt,sf,.bool true]) rfl (by obtain ⟨_,_,_,rfl⟩:=yn;obtain ⟨_,_,_,rfl⟩:=BO;kernel_rfl)) trivial ?_
        refine .O 7 0 8 255 rfl ?_
        refine .ah 3 (us:=[.int .i64 b.op,.int .i64 b.lt,sb,.int .i64 s1.op,.int .i64 s1.lt,sf,.bool true]) (cs':=[.int .i64 b.op,.int .i64 b.lt,sb,.int .i64 s1.op,.int .i64 s1.lt,sf,.bool true]) rfl iq rfl rfl rfl rfl aJ (aT rfl) rfl trivial ?_
        refine .nil ?_
        try (conv=>enter [2,2];simp only [cE])
        refine ay.ir 8 cx rfl cx ?_
        refine .nil ?_
        refine .fu ?_
        refine .ab (eY _ ?_)
        refine .ret (.al (.ae ?_))
        refine .cO [.cell 4 142] rfl (.cons (.cell jH rfl ax rfl rfl) (.nil)) (fun w hw=>⟨_,_,_,?_,rfl,.of (hw.pk [0])⟩)
        exact ⟨sb,sf,l6,rfl,yn,BO,rfl,fun y hy=>yd _ (ti _ (rD _ (pz _ (hg.2.2.1 _ (h2.sub y hy))))),Mv,yd _ (ti _ DS),rfl⟩
      ·refine .sr fun _ eI=>?_
       refine .v (.eql rfl rfl) (.as rfl (.nt eI ?_))
       refine .aA rfl (fun tb=>?_) (fun tb=>?_)
       ·refine .sr fun _ fH=>?_
        refine .v (.ak uS rfl ax rfl rfl) (.v (.ak aM rfl ax rfl rfl) ?_)
        refine .aY 0 rfl V1 rfl (fun w Fs hw hh bI bc=>H8 a nm e (tb) ih w (Fs 0) B l1 (hB.later bI bc 0) (hh.at_ 0 _ rfl) s (h2.sub _ hm) d hd) trivial rfl ?_
        rintro r A o ⟨sb,sf,l2,rfl,yn,BO,rfl,dX,BV,BU,rfl⟩
        refine .ah 3 (us:=[.int .i64 d.1.op,.int .i64 d.1.lt,sb,.int .i64 d.2.1.op,.int .i64 d.2.1.lt,sf,.bool d.2.2]) (cs':=[.int .i64 d.1.op,.int .i64 d.1.lt,sb,.int .i64 d.2.1.op,.int .i64 d.2.1.lt,sf,.bool d.2.2]) rfl iq rfl rfl rfl rfl aJ (aT rfl) rfl trivial ?_
        refine .nt fH (.ret (.al (.ae ?_)))
        refine .cO [.cell 4 142] rfl (.cons (.cell jH rfl ax rfl rfl) (.nil)) (fun w hw=>⟨_,_,_,?_,rfl,.of (hw.pk [0])⟩)
        exact ⟨sb,sf,l2,rfl,yn,BO,rfl,fun y hy=>dX _ (h2.sub y hy),BV,BU,rfl⟩
       ·refine .skip (.ag ?_)
        refine .ab (bW _ ?_)
        refine .sr fun _ gq=>?_
        refine .v (.ak aM rfl ax rfl rfl) (.v (.ak aM rfl ax rfl rfl) ?_)
        refine .v (.build (parts:=[(0,.tmp 62),(1,.tmp 63),(2,.const (.bool false))]) (cs:=#[.int .i64 aP.op,.int .i64 aP.lt,aW,.int .i64 aP.op,.int .i64 aP.lt,aW,.bool false]) rfl (by kernel_rfl)) ?_
        refine .ah 3 (us:=[.int .i64 aP.op,.int .i64 aP.lt,aW,.int .i64 aP.op,.int .i64 aP.lt,aW,.bool false]) (cs':=[.int .i64 aP.op,.int .i64 aP.lt,aW,.int .i64 aP.op,.int .i64 aP.lt,aW,.bool false]) rfl iq rfl rfl rfl rfl aJ (aT rfl) rfl trivial ?_
        refine .nt gq (.ret ?_)
        refine .np 0 (.deep aW []) rfl (fun R=>dy.nil R) (fun l2 dX gG=>?_)
        refine .cO [.cell 4 142] rfl (.cons (.cell jH rfl ax rfl rfl) (.nil)) (fun w hw=>⟨_,_,_,?_,rfl,.of (hw.pk [0])⟩)
        obtain rfl:=Fg hd (by omega) (by omega) (by omega) (by omega) (by omega) (by omega) (by omega)
        exact ⟨aW,aW,l2,rfl,cq,cq,rfl,fun y hy=>dX _ (h2.sub y hy),gG,gG,rfl⟩
theorem Va (a:Int) (nm:Bool) (e:Ex):JJ a nm e:=Ex.ind (P:=JJ a nm) (fun e ih w F B l hB hA s hm d hd=>E1 a nm e ih w F B l hB hA s hm d hd) e
set_option maxHeartbeats 800000 in
theorem H4 (w:World) (d:Dv) (sb sf:Value) (yn:aB sb) (h:dy (bD (fun _=>False) w) sb d.1.kids):aK Tryz.prog 102 [.agg #[.int .i64 d.1.op,.int .i64 d.1.lt,sb,.int .i64 d.2.1.op,.int .i64 d.2.1.lt,sf,.bool d.2.2]] w (fun r o=>r = .tuple #[.agg #[.int .i64 (wa d).1.op,.int .i64 (wa d).1.lt,z6 d sb],.int .i64 (wa d).2]∧o=[]):=by
 refine aC Tryz.func102 rfl (aT rfl) ?_
 refine .sr fun _ bl=>?_
 refine .cS (E:=142) (cs:=[.int .i64 d.1.op,.int .i64 d.1.lt,sb,.int .i64 d.2.1.op,.int .i64 d.2.1.lt,sf,.bool d.2.2]) rfl rfl rfl trivial rfl (fun jV=>?_)
 refine .alloc cC rfl rfl trivial rfl (fun eu=>?_)
 refine .as rfl (.nt bl ?_)
 refine .seq fun _ bg=>?_
 refine .sr fun _ bW=>?_
 refine .v (.fieldAddr r9 rfl) (.v (.ak aM rfl ax rfl rfl) ?_)
 refine .call Nf rfl (fun w hw=>vG w d.1 sb 6 (h.at hw)) trivial rfl ?_
 rintro r o ⟨rfl,rfl⟩
 refine .v (.neq rfl rfl) (.nt bW ?_)
 refine .df rfl (fun bx=>?_) (fun bx=>?_)
 ·refine .sr fun _ cr=>?_
  refine .v (.build (parts:=[]) (cs:=#[.int .i64 0,.int .i64 0,.slice none 0 0]) rfl (by kernel_rfl)) ?_
  refine .ah 1 (us:=[.int .i64 e0.op,.int .i64 e0.lt,aW]) (cs':=[.int .i64 e0.op,.int .i64 e0.lt,aW]) rfl cy rfl rfl rfl rfl aJ (aT rfl) rfl trivial ?_
  refine .as rfl (.nt cr (.ret (.ae ?_)))
  refine .cO [.cell 2 24,.tmp 3] rfl (.cons (.cell aM rfl ax rfl rfl) (.cons (.tmp rfl) (.nil))) (fun w hw=>⟨_,_,?_,rfl,.of (hw.pk [])⟩)
  rw [show wa d=(e0,3) from if_neg bx,show z6 d sb=aW from if_neg bx]
  exact ⟨rfl,rfl⟩
 ·refine .skip ?_
  refine .ab (bg _ ?_)
  refine .sr fun _ cJ=>?_
  refine .v (.fieldAddr r9 rfl) (.v (.ak aM rfl ax rfl rfl) ?_)
  refine .ah 1 (us:=[.int .i64 d.1.op,.int .i64 d.1.lt,sb]) (cs':=[.int .i64 d.1.op,.int .i64 d.1.lt,sb]) rfl cy rfl rfl rfl rfl aJ (aT rfl) rfl trivial ?_
  refine .as rfl (.nt cJ (.ret ?_))
  refine .cO [.cell 2 24,.tmp 3] rfl (.cons (.cell aM rfl ax rfl rfl) (.cons (.tmp rfl) (.nil))) (fun w hw=>⟨_,_,?_,rfl,.of (hw.pk [])⟩)
  rw [show wa d=(d.1,0) from if_pos (by omega),show z6 d sb=sb from if_pos (by omega)]
  exact ⟨rfl,rfl⟩
set_option maxHeartbeats 800000 in
theorem xH (a:Int) (e:Ex) (w:World) (F:Nat→Prop) (B:Bs) (l:List cw) (hB:gI B w F) (hA:(aI B l).holds w F) (s:Value) (hm:cw.deep s e.kids∈l) (p:Ex × Int) (hp:letE e a=some p):ck Tryz.prog 49 [.agg #[.int .i64 e.op,.int .i64 e.lt,s],.int .i64 a] w F (fun r A o=>∃ sp l',r = .tuple #[.agg #[.int .i64 p.1.op,.int .i64 p.1.lt,sp],.int .i64 p.2]∧aB sp∧A=aI B l'∧(∀ x∈l,x∈l')∧cw.deep sp p.1.kids∈l'∧o=[]):=by
 refine cu Tryz.func49 rfl (aT rfl) hA ?_
 obtain ⟨d,hd,rfl⟩:=Io hp
 refine .sr fun _ bl=>?_
 refine .cS (E:=24) (cs:=[.int .i64 e.op,.int .i64 e.lt,s]) rfl rfl rfl trivial rfl (fun eu=>?_)
 refine .alloc cC rfl rfl trivial rfl (fun iD=>?_)
 refine .as rfl (.nt bl ?_)
 refine .sr fun _ bg=>?_
 refine .mv rfl ?_
 refine .v (.build (parts:=[(0,.tmp 6),(1,.const (.bool true))]) (cs:=#[.int .i64 a,.bool true]) rfl (by kernel_rfl)) ?_
 refine .v (.ak aM rfl ax rfl rfl) ?_
 refine .aY 0 rfl Cy rfl (fun w Fs hw hh bI bc=>Va a true e w (Fs 0) B l (hB.later bI bc 0) (hh.at_ 0 _ rfl) s hm d hd) trivial rfl ?_
 rintro r A o ⟨sb,sf,l2,rfl,yn,BO,rfl,dX,BV,BU,rfl⟩
 refine .call Wh rfl (fun w hw=>H4 w d sb sf yn (hw.qh hB 0 rfl BV)) trivial rfl ?_
 rintro r o ⟨rfl,rfl⟩
 have Xa:aB (z6 d sb):=by unfold z6;split;exact yn;exact cq
 refine .v (.extract rfl rfl) (.v (.extract rfl rfl) ?_)
 refine .ah 2 (us:=[.int .i64 (wa d).1.op,.int .i64 (wa d).1.lt,z6 d sb]) (cs':=[.int .i64 (wa d).1.op,.int .i64 (wa d).1.lt,z6 d sb]) rfl cy rfl rfl rfl rfl aJ (aT rfl) rfl trivial ?_
 refine .as rfl (.nt bg (.ret ?_))
 refine .np 0 (.deep aW []) rfl (fun R=>dy.nil R) (fun l3 pz DT=>?_)
 refine .cO [.cell 4 24,.tmp 5] rfl (.cons (.cell aM rfl ax rfl rfl) (.cons (.tmp rfl) (.nil))) (fun w hw=>⟨_,_,_,?_,rfl,.of (hw.pk [0])⟩)
 refine ⟨z6 d sb,l3,rfl,Xa,rfl,fun x hx=>pz _ (dX x hx),?_,rfl⟩
 unfold wa z6
 split
 ·exact pz _ BV
 ·exact DT
end Go.Proofs.YtbibnpdnmmgacaaGreatDoor
namespace Go.Proofs.YtbibnpdnmmgacaaGreatDoor
open Go.Sx Go.RowKit
theorem Vl:Qk Tryz.prog 206:=⟨_,Tryz.func206,by kernel_rfl,by kernel_rfl,by kernel_rfl,by kernel_rfl⟩
theorem Vc (w:World) (F:Nat→Prop) (b:Nat) (v:Value) (vj:aB v) (hA:(box b 191 2 [.pointer none,v]).holds w F):ck Tryz.prog 198 [.pointer (some ⟨b,0,none⟩)] w F (fun r A o=>A=box b 191 2 [.pointer (some ⟨b,0,none⟩),v]∧o=[]):=by
 refine cu Tryz.func198 rfl (aT rfl) hA ?_
 refine .sr fun _ bl=>?_
 refine .mv rfl (.v (.nilCheck rfl) (.v (.fieldAddr vQ rfl) (.v (.aa JM rfl ax rfl) ?_)))
 refine .v (.IA (by kernel_rfl) rfl rfl) ?_
 refine .nt bl ?_
 refine .cD rfl (rfl) ?_
 refine .region ?_
 refine .mv rfl (.mv rfl ?_)
 refine .v (.KT (te:=191) (cs:=[.pointer none,v]) (by kernel_rfl) (by kernel_rfl) (by kernel_rfl) rfl ax (aT rfl)) ?_
 refine .v (.Vm Vl rfl) ?_
 refine .v (.E9 0 (u:=191) rfl (by kernel_rfl) (by kernel_rfl) (by kernel_rfl) (by kernel_rfl) rfl) ?_
 refine .v (.nilCheck rfl) (.v (.fieldAddr vQ rfl) ?_)
 refine .ah 0 (us:=[.pointer (some ⟨b,0,none⟩)]) (cs':=[.pointer (some ⟨b,0,none⟩),v]) rfl UX rfl rfl rfl rfl aJ (aT rfl) rfl trivial ?_
 refine .nil ?_
 refine .jz [] rfl (.nil) (fun w hw=>⟨_,_,_,?_,rfl,.of (hw.pk [0])⟩)
 exact ⟨rfl,rfl⟩
theorem Vb (w:World) (F:Nat→Prop) (b:Nat) (v:Value) (vj:aB v) (hA:(box b 191 2 [.pointer (some ⟨b,0,none⟩),v]).holds w F):ck Tryz.prog 198 [.pointer (some ⟨b,0,none⟩)] w F (fun r A o=>A=box b 191 2 [.pointer (some ⟨b,0,none⟩),v]∧o=[]):=by
 refine cu Tryz.func198 rfl (aT rfl) hA ?_
 refine .sr fun _ bl=>?_
 refine .mv rfl (.v (.nilCheck rfl) (.v (.fieldAddr vQ rfl) (.v (.aa JM rfl ax rfl) ?_)))
 refine .v (.Fb (by kernel_rfl) rfl rfl) ?_
 refine .nt bl ?_
 refine .dH rfl (rfl) ?_
 refine .sr fun _ bg=>?_
 refine .mv rfl (.v (.nilCheck rfl) (.v (.fieldAddr vQ rfl) (.v (.aa JM rfl ax rfl) (.mv rfl ?_))))
 refine .v (.E5 (te:=191) (by kernel_rfl) (by kernel_rfl) rfl rfl) ?_
 refine .nt bg ?_
 refine .dH rfl (rfl) ?_
 refine .skip ?_
 refine .jz [] rfl (.nil) (fun w hw=>⟨_,_,_,?_,rfl,.of (hw.pk [0])⟩)
 exact ⟨rfl,rfl⟩
theorem u4 (w:World) (F:Nat→Prop) (b:Nat) (v:Value) (vj:aB v) (ad:Value) (qJ:wm b ad) (hA:(box b 191 2 [ad,v]).holds w F):ck Tryz.prog 198 [.pointer (some ⟨b,0,none⟩)] w F (fun r A o=>A=box b 191 2 [.pointer (some ⟨b,0,none⟩),v]∧o=[]):=by
 rcases qJ with rfl | rfl
 ·exact Vc w F b v vj hA
 ·exact Vb w F b v vj hA
set_option maxHeartbeats 400000 in
theorem kE (w:World) (F:Nat→Prop) (b:Nat) (ad v:Value) (l:List UInt8) (qJ:wm b ad) (vj:aB v) (hA:(qS 191 5 b ad v l).holds w F) (c:UInt8) (hl:l.length+1≤140737488355328):ck Tryz.prog 176 [.pointer (some ⟨b,0,none⟩),.int .u8 (c.toNat:Int)] w F (fun r A o=>∃ v',aB v'∧A=qS 191 5 b (.pointer (some ⟨b,0,none⟩)) v' (l++[c])∧o=[]):=by
 refine dW Tryz.func176 rfl (aT rfl) hA ?_
 refine .sr fun _ bl=>?_
 refine .as rfl (.nt bl ?_)
 refine .sr fun _ bg=>?_
 refine .mv rfl ?_
 refine .aY 0 rfl PL rfl (fun w Fs hw hh bI bc=>u4 w (Fs 0) b v vj ad qJ (hh.at_ 0 _ rfl)) trivial rfl ?_
 rintro r A o ⟨rfl,rfl⟩
 refine .nt bg ?_
 refine .sr fun _ bW=>?_
 refine .mv rfl (.mv rfl (.v (.nilCheck rfl) (.v (.fieldAddr pK rfl) (.v (.aa FR rfl ax rfl) (.mv rfl ?_)))))
 refine .fF 1 rfl nX X5 rfl (by decide) rfl (by intro k hk;cases hk;rfl) rfl (aw rfl bY) (by omega) (by omega) (by decide) rfl rfl (fun v2 _ ku=>?_)
 refine .v (.nilCheck rfl) (.v (.fieldAddr pK rfl) ?_)
 refine .ah 0 (us:=[v2]) (cs':=[.pointer (some ⟨b,0,none⟩),v2]) rfl Pq rfl rfl (by rw [aB.cells ku]) rfl aJ (aT rfl) rfl trivial ?_
 refine .nt bW ?_
 refine .sr fun _ cr=>?_
 refine .as rfl (.nt cr (.ret ?_))
 refine .aG rfl rfl (fun w hw=>⟨_,_,_,?_,rfl,kq.ez (hw.pk [0,1])⟩)
 exact ⟨v2,ku,zP 191 5 b _ v2 l [c],rfl⟩
set_option maxHeartbeats 400000 in
theorem R0 (w:World) (F:Nat→Prop) (b:Nat) (ad v:Value) (l:List UInt8) (qJ:wm b ad) (vj:aB v) (hA:(qS 191 5 b ad v l).holds w F) (m:List UInt8) (hl:l.length+m.length≤140737488355328):ck Tryz.prog 199 [.pointer (some ⟨b,0,none⟩),sv m] w F (fun r A o=>∃ v',aB v'∧A=qS 191 5 b (.pointer (some ⟨b,0,none⟩)) v' (l++m)∧o=[]):=by
 refine dW Tryz.func199 rfl (aT rfl) hA ?_
 refine .sr fun _ bl=>?_
 refine .as rfl (.as rfl (.nt bl ?_))
 refine .sr fun _ bg=>?_
 refine .mv rfl ?_
 refine .aY 0 rfl PL rfl (fun w Fs hw hh bI bc=>u4 w (Fs 0) b v vj ad qJ (hh.at_ 0 _ rfl)) trivial rfl ?_
 rintro r A o ⟨rfl,rfl⟩
 refine .nt bg ?_
 refine .sr fun _ bW=>?_
 refine .mv rfl (.mv rfl (.v (.nilCheck rfl) (.v (.fieldAddr pK rfl) (.v (.aa FR rfl ax rfl) (.mv rfl ?_)))))
 refine .IJ 1 rfl nX X5 DM rfl rfl (by omega) trivial rfl (fun v2=>?_)
 refine .shape 1 rfl (fun ku=>?_)
 refine .v (.nilCheck rfl) (.v (.fieldAddr pK rfl) ?_)
 refine .ah 0 (us:=[v2]) (cs':=[.pointer (some ⟨b,0,none⟩),v2]) rfl Pq rfl rfl (by rw [aB.cells ku]) rfl aJ (aT rfl) rfl trivial ?_
 refine .nt bW ?_
 refine .sr fun _ cr=>?_
 refine .mv rfl (.v (.Ea DM rfl) (.as rfl (.as rfl (.nt cr (.ret ?_)))))
 refine .zZ rfl rfl rfl (fun w hw=>⟨_,_,_,?_,rfl,kq.ez (hw.pk [0,1])⟩)
 exact ⟨v2,ku,zP 191 5 b _ v2 l m,rfl⟩
def W3 (e:Ex):Prop:=∀ (w:World) (F:Nat→Prop) (b:Nat) (ad v:Value) (l:List UInt8) (qJ:wm b ad) (vj:aB v) (hA:(qS 191 5 b ad v l).holds w F) (s:Value) (h:dy (bD F w) s e.kids) (x9:dg 6 e=true) (hl:l.length+(jA e).length≤1099511627776),ck Tryz.prog 151 [.pointer (some ⟨b,0,none⟩),.agg #[.int .i64 e.op,.int .i64 e.lt,s]] w F (fun r A o=>∃ Pl v',wm b Pl∧aB v'∧A=qS 191 5 b Pl v' (l++jA e)∧o=[])
set_option maxHeartbeats 2000000 in
theorem rY (w:World) (F:Nat→Prop) (b:Nat) (ad v:Value) (l:List UInt8) (qJ:wm b ad) (vj:aB v) (hA:(qS 191 5 b ad v l).holds w F) (s:Value) (ks:List Ex) (ih:∀ i,i<ks.length→W3 (ks.getD i default)) (sep:List UInt8) (least:Int) (h:dy (bD F w) s ks) (x9:∀ i,i<ks.length→dg 6 (ks.getD i default)=true) (hl:l.length+(jv sep least false ks).length≤1099511627776):ck Tryz.prog 177 [.pointer (some ⟨b,0,none⟩),s,sv sep,.int .i64 least] w F (fun r A o=>∃ Pl v',wm b Pl∧aB v'∧A=qS 191 5 b Pl v' (l++jv sep least false ks)∧o=[]):=by
 obtain ⟨ss,mW,hx,hk⟩:=h.inv
 have hr:=hx.rd
 have hm:=hr.le
 refine cu Tryz.func177 rfl (aT rfl) hA ?_
 refine .sr fun _ bl=>?_
 refine .mv rfl (.v (.aZ aR rfl a8) (.mv rfl (.nt bl (.block ?_))))
 refine .bE (X:=Nat × Value × Value) [(0,_),(2,_),(3,_),(10,_),(11,_)] (fun x=>[(12,.int .i64 (x.1:Int))]) (fun x=>[qS 191 5 b x.2.1 x.2.2 (l++(jv sep least false (ks.take x.1)))]) (fun x=>x.1≤ks.length∧wm b x.2.1∧aB x.2.2) (fun x=>ks.length - x.1) ((0,ad,v)) aU ?_ ?_ ?_ ?_
 ·exact ⟨Nat.zero_le _,qJ,vj⟩
 ·exact aU
 ·exact fun w hw=>by simpa [jv] using hw
 ·intro x aV _ bg
  refine .sr fun _ bW=>?_
  refine .v (.lss rfl rfl) (.nt bW ?_)
  refine .seq fun _ cr=>?_
  refine .aA rfl (fun bx=>?_) (fun bx=>?_)
  ·have eo:x.1<ks.length:=by omega
   have sk:=(hk x.1 eo).sl
   have QF:=CE sep least ks x.1 eo
   have hle:=RP sep least ks (x.1+1)
   rw [QF,List.length_append,List.length_append] at hle
   have hbl:=II least (ks.getD x.1 default)
   refine .skip ?_
   refine .ab (cr _ ?_)
   refine .seq fun _ cJ=>?_
   refine .block ?_
   refine .sr fun _ cU=>?_
   refine .mv rfl (.v (.iN aR rfl rfl) ?_)
   refine .v (.da aM rfl a8 (by assumption) rfl (by omega)) ?_
   refine .alloc cC rfl rfl trivial rfl (fun tn=>?_)
   refine .as rfl ?_
   refine .ah 1 (us:=[.int .i64 (ks.getD x.1 default).op,.int .i64 (ks.getD x.1 default).lt,ss.getD x.1 undef]) (cs':=[.int .i64 (ks.getD x.1 default).op,.int .i64 (ks.getD x.1 default).lt,ss.getD x.1 undef]) rfl cy rfl rfl rfl rfl aJ (aT rfl) rfl trivial ?_
   refine .nt cU ?_
   refine .seq fun _ c7=>?_
   refine .sr fun _ dm=>?_
   refine .mv rfl (.v (.gtr rfl rfl) (.nt dm ?_))
   refine .aA rfl (fun cB=>?_) (fun cB=>?_)
   ·rw [if_pos (show 0<x.1 by omega)] at hle QF
    refine .region ?_
    refine .mv rfl (.mv rfl ?_)
    refine .aY 0 rfl VQ rfl (fun w Fs hw hh bI bc=>R0 w (Fs 0) b x.2.1 x.2.2 (l++(jv sep least false (ks.take x.1))) aV.2.1 aV.2.2 (hh.at_ 0 _ rfl) sep (by rw [List.length_append];omega)) trivial rfl ?_
    rintro r A o ⟨v2,ku,rfl,rfl⟩
    refine .nt c7 ?_
    refine .seq fun _ dD=>?_
    refine .sr fun _ bJ=>?_
    refine .v (.fieldAddr cP rfl) (.v (.aa cQ rfl ax rfl) ?_)
    refine .call PK rfl (fun w hw=>Gq w _) trivial rfl ?_
    rintro r o ⟨rfl,rfl⟩
    refine .mv rfl (.v (.geq rfl rfl) (.nt bJ ?_))
    refine .aA rfl (fun cZ=>?_) (fun cZ=>?_)
    ·have vC:oR least (ks.getD x.1 default)=jA (ks.getD x.1 default):=if_pos (by omega)
     refine .sr fun _ bP=>?_
     refine .mv rfl (.v (.ak aM rfl ax rfl rfl) ?_)
     refine .aY 0 rfl Cu rfl (fun w Fs hw hh bI bc=>ih x.1 eo w (Fs 0) b _ v2 _ (.inr rfl) ku (hh.at_ 0 _ rfl) _ ((hk x.1 eo).yi bI bc 0) (x9 x.1 eo) (by simp only [List.length_append];omega)) trivial rfl ?_
     rintro r A o ⟨Hv,v3,tA,ym,rfl,rfl⟩
     refine .nt bP (.exit (.ai (.ar ?_)))
     refine .ab (cJ _ ?_)
     refine .region ?_
     refine .v (.add rfl rfl (by omega)) ?_
     refine .mv rfl (.nil ?_)
     refine .ab (bg _ _ ((x.1+1,Hv,v3)) ⟨by dsimp only;omega,tA,ym⟩ (by dsimp only;omega) (aU) (fun w hw=>by have h:=hw.pk [0];dsimp only;rw [QF,vC];simpa [List.append_assoc] using h))
    ·have vC:oR least (ks.getD x.1 default)=40 :: (jA (ks.getD x.1 default)++[41]):=if_neg (by omega)
     have Zf:(oR least (ks.getD x.1 default)).length=(jA (ks.getD x.1 default)).length+2:=by rw [vC];simp
     refine .skip ?_
     refine .ab (dD _ ?_)
     refine .sr fun _ ct=>?_
     refine .mv rfl ?_
     refine .aY 0 rfl rT rfl (fun w Fs hw hh bI bc=>kE w (Fs 0) b _ v2 _ (.inr rfl) ku (hh.at_ 0 _ rfl) 40 (by simp only [List.length_append];omega)) trivial rfl ?_
     rintro r A o ⟨v3,ym,rfl,rfl⟩
     refine .nt ct ?_
     refine .sr fun _ cK=>?_
     refine .mv rfl (.v (.ak aM rfl ax rfl rfl) ?_)
     refine .aY 0 rfl Cu rfl (fun w Fs hw hh bI bc=>ih x.1 eo w (Fs 0) b _ v3 _ (.inr rfl) ym (hh.at_ 0 _ rfl) _ ((hk x.1 eo).yi bI bc 0) (x9 x.1 eo) (by simp only [List.length_append,List.length_singleton];omega)) trivial rfl ?_
     rintro r A o ⟨Yb,v4,Rq,Ty,rfl,rfl⟩
     refine .nt cK ?_
     refine .region ?_
     refine .mv rfl ?_
     refine .aY 0 rfl rT rfl (fun w Fs hw hh bI bc=>kE w (Fs 0) b Yb v4 _ Rq Ty (hh.at_ 0 _ rfl) 41 (by simp only [List.length_append,List.length_singleton];omega)) trivial rfl ?_
     rintro r A o ⟨v5,W7,rfl,rfl⟩
     refine .nil (.ag ?_)
     refine .ab (cJ _ ?_)
     refine .region ?_
     refine .v (.add rfl rfl (by omega)) ?_
     refine .mv rfl (.nil ?_)
     refine .ab (bg _ _ ((x.1+1,.pointer (some ⟨b,0,none⟩),v5)) ⟨by dsimp only;omega,.inr rfl,W7⟩ (by dsimp only;omega) (aU) (fun w hw=>by have h:=hw.pk [0];dsimp only;rw [QF,vC];simpa [List.append_assoc] using h))
   ·rw [if_neg (show ¬ 0<x.1 by omega)] at hle QF
    simp only [List.length_nil,Nat.zero_add] at hle
    refine .skip ?_
    refine .ab (c7 _ ?_)
    refine .seq fun _ cW=>?_
    refine .sr fun _ c8=>?_
    refine .v (.fieldAddr cP rfl) (.v (.aa cQ rfl ax rfl) ?_)
    refine .call PK rfl (fun w hw=>Gq w _) trivial rfl ?_
    rintro r o ⟨rfl,rfl⟩
    refine .mv rfl (.v (.geq rfl rfl) (.nt c8 ?_))
    refine .aA rfl (fun cZ=>?_) (fun cZ=>?_)
    ·have vC:oR least (ks.getD x.1 default)=jA (ks.getD x.1 default):=if_pos (by omega)
     refine .sr fun _ dw=>?_
     refine .mv rfl (.v (.ak aM rfl ax rfl rfl) ?_)
     refine .aY 0 rfl Cu rfl (fun w Fs hw hh bI bc=>ih x.1 eo w (Fs 0) b x.2.1 x.2.2 _ aV.2.1 aV.2.2 (hh.at_ 0 _ rfl) _ ((hk x.1 eo).yi bI bc 0) (x9 x.1 eo) (by simp only [List.length_append];omega)) trivial rfl ?_
     rintro r A o ⟨Hv,v3,tA,ym,rfl,rfl⟩
     refine .nt dw (.exit (.ai (.ar ?_)))
     refine .ab (cJ _ ?_)
     refine .region ?_
     refine .v (.add rfl rfl (by omega)) ?_
     refine .mv rfl (.nil ?_)
     refine .ab (bg _ _ ((x.1+1,Hv,v3)) ⟨by dsimp only;omega,tA,ym⟩ (by dsimp only;omega) (aU) (fun w hw=>by have h:=hw.pk [0];dsimp only;rw [QF,vC];simpa [List.append_assoc] using h))
    ·have vC:oR least (ks.getD x.1 default)=40 :: (jA (ks.getD x.1 default)++[41]):=if_neg (by omega)
     have Zf:(oR least (ks.getD x.1 default)).length=(jA (ks.getD x.1 default)).length+2:=by rw [vC];simp
     refine .skip ?_
     refine .ab (cW _ ?_)
     refine .sr fun _ dE=>?_
     refine .mv rfl ?_
     refine .aY 0 rfl rT rfl (fun w Fs hw hh bI bc=>kE w (Fs 0) b x.2.1 x.2.2 _ aV.2.1 aV.2.2 (hh.at_ 0 _ rfl) 40 (by simp only [List.length_append];omega)) trivial rfl ?_
     rintro r A o ⟨v3,ym,rfl,rfl⟩
     refine .nt dE ?_
     refine .sr fun _ dR=>?_
     refine .mv rfl (.v (.ak aM rfl ax rfl rfl) ?_)
     refine .aY 0 rfl Cu rfl (fun w Fs hw hh bI bc=>ih x.1 eo w (Fs 0) b _ v3 _ (.inr rfl) ym (hh.at_ 0 _ rfl) _ ((hk x.1 eo).yi bI bc 0) (x9 x.1 eo) (by simp only [List.length_append,List.length_singleton];omega)) trivial rfl ?_
     rintro r A o ⟨Yb,v4,Rq,Ty,rfl,rfl⟩
     refine .nt dR ?_
     refine .region ?_
     refine .mv rfl ?_
     refine .aY 0 rfl rT rfl (fun w Fs hw hh bI bc=>kE w (Fs 0) b Yb v4 _ Rq Ty (hh.at_ 0 _ rfl) 41 (by simp only [List.length_append,List.length_singleton];omega)) trivial rfl ?_
     rintro r A o ⟨v5,W7,rfl,rfl⟩
     refine .nil (.ag ?_)
     refine .ab (cJ _ ?_)
     refine .region ?_
     refine .v (.add rfl rfl (by omega)) ?_
     refine .mv rfl (.nil ?_)
     refine .ab (bg _ _ ((x.1+1,.pointer (some ⟨b,0,none⟩),v5)) ⟨by dsimp only;omega,.inr rfl,W7⟩ (by dsimp only;omega) (aU) (fun w hw=>by have h:=hw.pk [0];dsimp only;rw [QF,vC];simpa [List.append_assoc] using h))
  ·refine .exit (.ai (.ai (.ar ?_)))
   refine .jz [] rfl (.nil) (fun w hw=>⟨_,_,_,?_,rfl,.of (hw.pk [0])⟩)
   have e1:x.1=ks.length:=by omega
   rw [e1,List.take_length]
   exact ⟨x.2.1,x.2.2,aV.2.1,aV.2.2,rfl,rfl⟩
set_option maxHeartbeats 2000000 in
theorem BI (e:Ex) (ih:∀ i,i<e.kids.length→W3 (e.kids.getD i default)) (w:World) (F:Nat→Prop) (b:Nat) (ad v:Value) (l:List UInt8) (qJ:wm b ad) (vj:aB v) (hA:(qS 191 5 b ad v l).holds w F) (s:Value) (h:dy (bD F w) s e.kids) (x9:dg 6 e=true) (hl:l.length+(jA e).length≤1099511627776):ck Tryz.prog 151 [.pointer (some ⟨b,0,none⟩),.agg #[.int .i64 e.op,.int .i64 e.lt,s]] w F (fun r A o=>∃ Pl v',wm b Pl∧aB v'∧A=qS 191 5 b Pl v' (l++jA e)∧o=[]):=by
 refine cu Tryz.func151 rfl (aT rfl) hA ?_
 refine .sr fun _ bl=>?_
 refine .cS (E:=24) rfl rfl rfl trivial rfl (fun ga=>?_)
 refine .nt bl ?_
 refine .sr fun _ bg=>?_
 refine .v (.fieldAddr cP rfl) (.v (.aa cQ rfl ax rfl) (.nt bg (.block ?_)))
 refine .sr fun _ bW=>?_
 refine .v (.eql rfl rfl) (.as rfl (.nt bW ?_))
 refine .aA rfl (fun bx=>?_) (fun bx=>?_)
 ·have D2:jA e=[48]:=by rw [lS,if_pos bx]
  rw [D2] at hl ⊢
  simp only [List.length_singleton] at hl
  refine .region ?_
  refine .mv rfl ?_
  refine .aY 0 rfl rT rfl (fun w Fs hw hh bI bc=>kE w (Fs 0) b ad v l qJ vj (hh.at_ 0 _ rfl) 48 (by omega)) trivial rfl ?_
  rintro r A o ⟨v2,ku,rfl,rfl⟩
  refine .nil (.ag ?_)
  refine .jz [] rfl (.nil) (fun w hw=>⟨_,_,_,?_,rfl,.of (hw.pk [0])⟩)
  exact ⟨_,v2,.inr rfl,ku,rfl,rfl⟩
 ·refine .sr fun _ cr=>?_
  refine .v (.eql rfl rfl) (.as rfl (.nt cr ?_))
  refine .aA rfl (fun cB=>?_) (fun cB=>?_)
  ·have D2:jA e=[49]:=by rw [lS,if_neg bx,if_pos cB]
   rw [D2] at hl ⊢
   simp only [List.length_singleton] at hl
   refine .region ?_
   refine .mv rfl ?_
   refine .aY 0 rfl rT rfl (fun w Fs hw hh bI bc=>kE w (Fs 0) b ad v l qJ vj (hh.at_ 0 _ rfl) 49 (by omega)) trivial rfl ?_
   rintro r A o ⟨v2,ku,rfl,rfl⟩
   refine .nil (.ag ?_)
   refine .jz [] rfl (.nil) (fun w hw=>⟨_,_,_,?_,rfl,.of (hw.pk [0])⟩)
   exact ⟨_,v2,.inr rfl,ku,rfl,rfl⟩
  ·refine .sr fun _ cJ=>?_
   refine .v (.eql rfl rfl) (.as rfl (.nt cJ ?_))
   refine .aA rfl (fun cZ=>?_) (fun cZ=>?_)
   ·have D2:jA e=[97+UInt8.ofNat e.lt.toNat]:=by rw [lS,if_neg bx,if_neg cB,if_pos cZ]
    rw [D2] at hl ⊢
    simp only [List.length_singleton] at hl
    have bZ:=HO x9 cZ
    refine .region ?_
    refine .mv rfl (.v (.fieldAddr gr rfl) (.v (.aa cQ rfl ax rfl) ?_))
    refine .v (.wy (by kernel_rfl) Tw rfl (wrap_u8 (by omega))) ?_
    refine .v (.Qi rfl rfl (by omega)) ?_
    refine .aY 0 rfl rT rfl (fun w Fs hw hh bI bc=>(by have h:=kE w (Fs 0) b ad v l qJ vj (hh.at_ 0 _ rfl) (97+UInt8.ofNat e.lt.toNat) (by omega);rw [Vo bZ] at h;exact h)) trivial rfl ?_
    rintro r A o ⟨v2,ku,rfl,rfl⟩
    refine .nil (.ag ?_)
    refine .jz [] rfl (.nil) (fun w hw=>⟨_,_,_,?_,rfl,.of (hw.pk [0])⟩)
    exact ⟨_,v2,.inr rfl,ku,rfl,rfl⟩
   ·refine .sr fun _ cU=>?_
    refine .v (.eql rfl rfl) (.as rfl (.nt cU ?_))
    refine .aA rfl (fun iz=>?_) (fun iz=>?_)
    ·have D2:jA e=jv [124] 2 false e.kids:=by rw [lS,if_neg bx,if_neg cB,if_neg cZ,if_pos iz]
     rw [D2] at hl ⊢
     refine .region ?_
     refine .mv rfl (.v (.fieldAddr bM rfl) (.v (.aa du rfl ax rfl) ?_))
     refine .aY 0 rfl Ct rfl (fun w Fs hw hh bI bc=>rY w (Fs 0) b ad v l qJ vj (hh.at_ 0 _ rfl) s e.kids ih [124] 2 (h.yi bI bc 0) (fun i hi=>nr x9 hi) (by (try simp only [List.length_append,List.length_singleton]);omega)) trivial rfl ?_
     rintro r A o ⟨Hv,v3,tA,ym,rfl,rfl⟩
     refine .nil (.ag ?_)
     refine .jz [] rfl (.nil) (fun w hw=>⟨_,_,_,?_,rfl,.of (hw.pk [0])⟩)
     exact ⟨Hv,v3,tA,ym,rfl,rfl⟩
    ·refine .sr fun _ c7=>?_
     refine .v (.eql rfl rfl) (.as rfl (.nt c7 ?_))
     refine .aA rfl (fun gn=>?_) (fun gn=>?_)
     ·have D2:jA e=jv [38] 3 false e.kids:=by rw [lS,if_neg bx,if_neg cB,if_neg cZ,if_neg iz,if_pos gn]
      rw [D2] at hl ⊢
      refine .region ?_
      refine .mv rfl (.v (.fieldAddr bM rfl) (.v (.aa du rfl ax rfl) ?_))
      refine .aY 0 rfl Ct rfl (fun w Fs hw hh bI bc=>rY w (Fs 0) b ad v l qJ vj (hh.at_ 0 _ rfl) s e.kids ih [38] 3 (h.yi bI bc 0) (fun i hi=>nr x9 hi) (by (try simp only [List.length_append,List.length_singleton]);omega)) trivial rfl ?_
      rintro r A o ⟨Hv,v3,tA,ym,rfl,rfl⟩
      refine .nil (.ag ?_)
      refine .jz [] rfl (.nil) (fun w hw=>⟨_,_,_,?_,rfl,.of (hw.pk [0])⟩)
      exact ⟨Hv,v3,tA,ym,rfl,rfl⟩
     ·refine .sr fun _ dm=>?_
      refine .v (.eql rfl rfl) (.as rfl (.nt dm ?_))
      refine .aA rfl (fun qp=>?_) (fun qp=>?_)
      ·have D2:jA e=jv [] 4 false e.kids:=by rw [lS,if_neg bx,if_neg cB,if_neg cZ,if_neg iz,if_neg gn,if_pos qp]
       rw [D2] at hl ⊢
       refine .region ?_
       refine .mv rfl (.v (.fieldAddr bM rfl) (.v (.aa du rfl ax rfl) ?_))
       refine .aY 0 rfl Ct rfl (fun w Fs hw hh bI bc=>rY w (Fs 0) b ad v l qJ vj (hh.at_ 0 _ rfl) s e.kids ih [] 4 (h.yi bI bc 0) (fun i hi=>nr x9 hi) (by (try simp only [List.length_append,List.length_singleton]);omega)) trivial rfl ?_
       rintro r A o ⟨Hv,v3,tA,ym,rfl,rfl⟩
       refine .nil (.ag ?_)
       refine .jz [] rfl (.nil) (fun w hw=>⟨_,_,_,?_,rfl,.of (hw.pk [0])⟩)
       exact ⟨Hv,v3,tA,ym,rfl,rfl⟩
      ·refine .sr fun _ dD=>?_
       refine .v (.eql rfl rfl) (.as rfl (.nt dD ?_))
       refine .aA rfl (fun ka=>?_) (fun ka=>?_)
       ·have D2:jA e=33 :: jv [] 4 false e.kids:=by rw [lS,if_neg bx,if_neg cB,if_neg cZ,if_neg iz,if_neg gn,if_neg qp,if_pos ka]
        rw [D2] at hl ⊢
        simp only [List.length_cons] at hl
        refine .sr fun _ bJ=>?_
        refine .mv rfl ?_
        refine .aY 0 rfl rT rfl (fun w Fs hw hh bI bc=>kE w (Fs 0) b ad v l qJ vj (hh.at_ 0 _ rfl) 33 (by omega)) trivial rfl ?_
        rintro r A o ⟨v2,ku,rfl,rfl⟩
        refine .nt bJ ?_
        refine .region ?_
        refine .mv rfl (.v (.fieldAddr bM rfl) (.v (.aa du rfl ax rfl) ?_))
        refine .aY 0 rfl Ct rfl (fun w Fs hw hh bI bc=>rY w (Fs 0) b _ v2 _ (.inr rfl) ku (hh.at_ 0 _ rfl) s e.kids ih [] 4 (h.yi bI bc 0) (fun i hi=>nr x9 hi) (by (try simp only [List.length_append,List.length_singleton]);omega)) trivial rfl ?_
        rintro r A o ⟨Hv,v3,tA,ym,rfl,rfl⟩
        refine .nil (.ag ?_)
        refine .jz [] rfl (.nil) (fun w hw=>⟨_,_,_,?_,rfl,.of (hw.pk [0])⟩)
        exact ⟨Hv,v3,tA,ym,by simp,rfl⟩
       ·refine .sr fun _ bP=>?_
        refine .v (.eql rfl rfl) (.as rfl (.nt bP ?_))
        refine .aA rfl (fun tb=>?_) (fun tb=>?_)
        ·have D2:jA e=jv [] 5 false e.kids++[42]:=by rw [lS,if_neg bx,if_neg cB,if_neg cZ,if_neg iz,if_neg gn,if_neg qp,if_neg ka,if_pos tb]
         rw [D2] at hl ⊢
         simp only [List.length_append,List.length_singleton] at hl
         refine .sr fun _ ct=>?_
         refine .mv rfl (.v (.fieldAddr bM rfl) (.v (.aa du rfl ax rfl) ?_))
         refine .aY 0 rfl Ct rfl (fun w Fs hw hh bI bc=>rY w (Fs 0) b ad v l qJ vj (hh.at_ 0 _ rfl) s e.kids ih [] 5 (h.yi bI bc 0) (fun i hi=>nr x9 hi) (by (try simp only [List.length_append,List.length_singleton]);omega)) trivial rfl ?_
         rintro r A o ⟨Hv,v3,tA,ym,rfl,rfl⟩
         refine .nt ct ?_
         refine .region ?_
         refine .mv rfl ?_
         refine .aY 0 rfl rT rfl (fun w Fs hw hh bI bc=>kE w (Fs 0) b Hv v3 _ tA ym (hh.at_ 0 _ rfl) 42 (by simp only [List.length_append];omega)) trivial rfl ?_
         rintro r A o ⟨v4,Ty,rfl,rfl⟩
         refine .nil (.ag ?_)
         refine .jz [] rfl (.nil) (fun w hw=>⟨_,_,_,?_,rfl,.of (hw.pk [0])⟩)
         exact ⟨_,v4,.inr rfl,Ty,by simp,rfl⟩
        ·refine .skip (.ag ?_)
         refine .jz [] rfl (.nil) (fun w hw=>⟨_,_,_,?_,rfl,.of (hw.pk [0])⟩)
         rw [lS,if_neg bx,if_neg cB,if_neg cZ,if_neg iz,if_neg gn,if_neg qp,if_neg ka,if_neg tb,List.append_nil]
         exact ⟨ad,v,qJ,vj,rfl,rfl⟩
theorem NG (e:Ex):W3 e:=Ex.ind (P:=W3) (fun e ih w F b ad v l qJ vj hA s h x9 hl=>BI e ih w F b ad v l qJ vj hA s h x9 hl) e
theorem RQ:∀ e:Ex,dg 6 e=true→jA e ≠ []:=Ex.ind (P:=fun e=>dg 6 e=true→jA e ≠ []) (fun e ih hv hn=>by
 rw [lS] at hn
 have hw:=hv
 rw [dZ] at hw
 by_cases h1:e.op=1
 ·rw [if_pos h1] at hn;cases hn
 rw [if_neg h1] at hn
 by_cases h2:e.op=2
 ·rw [if_pos h2] at hn;cases hn
 rw [if_neg h2] at hn
 by_cases h3:e.op=3
 ·rw [if_pos h3] at hn;cases hn
 rw [if_neg h3] at hn
 have body:∀ (sep:List UInt8) (least:Int),e.kids ≠ []→jv sep least false e.kids=[]→False:=by
  intro sep least j9 h
  obtain ⟨k,ks,Mw⟩:∃ k ks,e.kids=k :: ks:=by
   cases hk:e.kids with
   | nil=>exact absurd hk j9
   | cons k ks=>exact ⟨k,ks,rfl⟩
  have vm:0<e.kids.length:=by rw [Mw];simp
  have h0:=ih 0 vm (nr hv vm)
  have e0:e.kids.getD 0 default=k:=by rw [Mw];rfl
  rw [e0] at h0
  rw [Mw] at h
  simp only [jv,List.append_eq_nil_iff] at h
  exact h0 (by have h9:=h.1.2;by_cases hl:least≤eh k.op <;> simp [hl] at h9 <;> exact h9)
 have two:(e.op=4∨e.op=5∨e.op=6)→e.kids ≠ []:=by
  intro h he
  rw [if_neg h3,if_neg (show ¬ (e.op=1∨e.op=2) by omega),if_pos h,he] at hw
  simp at hw
 by_cases h4:e.op=4
 ·rw [if_pos h4] at hn;exact body _ _ (two (by omega)) hn
 rw [if_neg h4] at hn
 by_cases h6:e.op=6
 ·rw [if_pos h6] at hn;exact body _ _ (two (by omega)) hn
 rw [if_neg h6] at hn
 by_cases h5:e.op=5
 ·rw [if_pos h5] at hn;exact body _ _ (two (by omega)) hn
 rw [if_neg h5] at hn
 by_cases h8:e.op=8
 ·rw [if_pos h8] at hn;cases hn
 rw [if_neg h8] at hn
 by_cases h7:e.op=7
 ·rw [if_pos h7] at hn;simp at hn
 rw [if_neg h3,if_neg (show ¬ (e.op=1∨e.op=2) by omega),if_neg (show ¬ (e.op=4∨e.op=5∨e.op=6) by omega),if_neg (show ¬ (e.op=7∨e.op=8) by omega)] at hw
 simp at hw)
set_option maxHeartbeats 400000 in
theorem Sh (w:World) (F:Nat→Prop) (b:Nat) (ad v:Value) (l:List UInt8) (qJ:wm b ad) (vj:aB v) (hA:(qS 191 5 b ad v l).holds w F) (h0:l ≠ []):ck Tryz.prog 152 [.pointer (some ⟨b,0,none⟩)] w F (fun r A o=>r=sv l∧A=bh [box b 191 2 [ad,v],om]∧o=[]):=by
 have hA2:=hA
 obtain ⟨_,gh,_⟩:=hA2
 obtain ⟨gb,cap,rfl,Zc⟩:=S7 (gh.at_ 1 _ rfl) (List.length_pos_iff.2 h0)
 refine dW Tryz.func152 rfl (aT rfl) hA ?_
 refine .sr fun _ bl=>?_
 refine .as rfl (.nt bl ?_)
 refine .seq fun _ bg=>?_
 refine .kK 10 mixed cx (fun _ fA=>?_)
 refine .v fA (.move rfl) (.v fA (.nilCheck rfl) (.v fA (.fieldAddr pK rfl) (.v fA (.aa FR rfl ax rfl) (.v fA (.HU rfl Zc) (.v fA (.move rfl) (.v fA (.nilCheck rfl) (.v fA (.fieldAddr pK rfl) ?_)))))))
 refine .v fA (.aa FR rfl ax rfl) (.v fA (.aZ nX rfl a8) (.nil (SK.fin fA ?_)))
 refine .HP 1 rfl (by kernel_rfl) (by kernel_rfl) h0 rfl rfl rfl trivial rfl ?_
 refine .as rfl (.nt bg (.ret ?_))
 refine .aG rfl rfl (fun w hw=>⟨_,_,_,?_,rfl,kq.ez (hw.pk [0,1])⟩)
 exact ⟨rfl,rfl,rfl⟩
set_option maxHeartbeats 800000 in
theorem CM (w:World) (e:Ex) (s:Value) (h:dy (bD (fun _=>False) w) s e.kids) (t:List UInt8) (ht:Ac e=some t):aK Tryz.prog 101 [.agg #[.int .i64 e.op,.int .i64 e.lt,s]] w (fun r o=>r=sv t∧o=[]):=by
 refine aC Tryz.func101 rfl (aT rfl) ?_
 refine .sr fun _ bl=>?_
 refine .cS (E:=24) (cs:=[.int .i64 e.op,.int .i64 e.lt,s]) rfl rfl rfl trivial rfl (fun jV=>?_)
 refine .as rfl (.nt bl ?_)
 refine .seq fun _ bg=>?_
 refine .sr fun _ bW=>?_
 refine .v (.ak aM rfl ax rfl rfl) ?_
 refine .call Ry rfl (fun w hw=>El w e s (h.at hw)) trivial rfl ?_
 rintro r o ⟨rfl,rfl⟩
 refine .v (.not rfl) (.nt bW ?_)
 refine .eW rfl (fun bx=>?_) (fun bx=>?_)
 ·rcases zy ht with ⟨h1,_⟩ | ⟨_,rfl⟩
  ·exact absurd h1 (by simpa using bx)
  refine .sr fun _ cr=>?_
  refine .as rfl (.nt cr (.ret (.ae ?_)))
  refine .aG rfl rfl (fun w hw=>⟨_,_,?_,rfl,.of (hw.pk [])⟩)
  exact ⟨rfl,rfl⟩
 ·obtain ⟨IP,rfl,hlen⟩:cg e 6=0∧t=jA e∧(jA e).length≤1073741824:=by
   rcases zy ht with h1 | ⟨h1,_⟩
   ·exact h1
   ·exact absurd (by simpa using bx) h1
  refine .skip ?_
  refine .ab (bg _ ?_)
  refine .sr fun _ cJ=>?_
  refine .alloc VH rfl rfl trivial rfl (fun ga=>?_)
  refine .nt cJ ?_
  refine .sr fun _ cU=>?_
  refine .v (.ak aM rfl ax rfl rfl) ?_
  refine .ghost 5 1 ?_
  refine .own' [qS 191 5 ga (.pointer none) aW []] (fun w hw=>by have h:=HW.fU (l:=[_,_]) (own:=[]) (hw.pk [1,2]);exact h) ?_
  refine .aY 0 rfl Cu rfl (fun w Fs hw hh bI bc=>NG e w (Fs 0) ga _ aW [] (.inl rfl) cq (hh.at_ 0 _ rfl) s (h.yi bI bc 0) (CG IP) (by simp only [List.length_nil];omega)) trivial rfl ?_
  rintro r A o ⟨ad2,v2,Zh,ku,rfl,rfl⟩
  refine .nt cU ?_
  refine .sr fun _ c7=>?_
  refine .aY 0 rfl V2 rfl (fun w Fs hw hh bI bc=>Sh w (Fs 0) ga ad2 v2 (jA e) Zh ku (hh.at_ 0 _ rfl) (RQ e (CG IP))) trivial rfl ?_
  rintro r A o ⟨rfl,rfl,rfl⟩
  refine .as rfl (.nt c7 (.ret ?_))
  refine .aG rfl rfl (fun w hw=>⟨_,_,?_,rfl,.of (hw.pk [])⟩)
  exact ⟨rfl,rfl⟩
end Go.Proofs.YtbibnpdnmmgacaaGreatDoor
namespace Go.Proofs.YtbibnpdnmmgacaaGreatDoor
open Go.Sx Go.RowKit
set_option maxHeartbeats 1000000 in
theorem Ki (w:World) (F:Nat→Prop) (B:Bs) (l:List cw) (hB:gI B w F) (rb mb:Nat) (vE vN:Value) (es rs:List Value) (q:mZ) (hq:oI vE vN es rs q l) (hA:(bh (qg 137 24 67 3 rb mb vE vN es rs q B l)).holds w F) (e:Ex) (s:Value) (hm:cw.deep s e.kids∈l) (ss:aB s) (q2:mZ) (ha:qV q e=some q2) (bZ:q.ex.length<512):ck Tryz.prog 99 [.pointer (some ⟨rb,0,none⟩),.agg #[.int .i64 e.op,.int .i64 e.lt,s]] w F (fun r A o=>r = .int .i64 (q.ex.length:Int)∧o=[]∧∃ v2 Hu,oI v2 vN Hu rs q2 l∧A=bh (qg 137 24 67 3 rb mb v2 vN Hu rs q2 B l)):=by
 have XY:=ha
 obtain ⟨t,ht,rfl⟩:=uC ha
 have Hr:=hq.eL
 unfold qg at hA
 refine dW Tryz.func99 rfl (aT rfl) hA ?_
 refine .sr fun _ bl=>?_
 refine .cS (E:=24) rfl rfl rfl trivial rfl (fun ga=>?_)
 refine .as rfl (.nt bl ?_)
 refine .sr fun _ bg=>?_
 refine .mv rfl (.v (.nilCheck rfl) (.v (.fieldAddr eE rfl) (.v (.fieldAddr kH rfl) (.v (.aa du rfl ax rfl) (.v (.aZ aR rfl a8) (.as rfl (.nt bg ?_)))))))
 refine .seq fun _ bW=>?_
 try (conv=>enter [2,2];simp only [cE])
 refine .held 7 mixed ?_
 refine .F 0 7 8 1 rfl (.move rfl) trivial ?_
 refine .F 1 6 8 3 rfl (.nilCheck rfl) trivial ?_
 refine .F 2 5 8 7 rfl (.fieldAddr GX rfl) trivial ?_
 refine .F 3 4 8 15 rfl (.aa Pw rfl ax rfl) trivial ?_
 refine .F 4 3 8 31 rfl (.ak aM rfl ax rfl rfl) trivial ?_
 refine .F 6 2 8 95 rfl (.move rfl) trivial ?_
 refine .O 5 1 8 127 rfl ?_
 refine .call Qa rfl (fun w hw=>CM w e s (hw.qh hB 5 rfl hm) t ht) trivial rfl ?_
 rintro r o ⟨rfl,rfl⟩
 refine .nil ?_
 try (conv=>enter [2,2];simp only [cE])
 refine ay.back Go.Sx.hle ?_
 refine .O 7 0 8 255 rfl ?_
 refine .qX 4 rfl Px (GK DM) rfl rfl rfl trivial ?_
 refine .nil ?_
 try (conv=>enter [2,2];simp only [cE])
 refine ay.ir 8 cx rfl cx ?_
 refine .nil ?_
 refine .fu ?_
 refine .ab (bW _ ?_)
 refine .seq fun _ cr=>?_
 refine .oM (X:=Value) [(5,_)] (fun z=>[]) (fun z=>[box rb 137 5 [.int .i64 (q.L:Int),z,vN,.int .i64 (q.dn:Int),.map (some mb)],row z 24 3 (q.ex.length+1) (dc (q.ex++[e]) (es++[s])),row vN 67 1 q.nx.length rs,bh (dQ (Value.int .i64) 3 rs q.nx),mapA mb (kx sv (Value.int .i64) (jI q.num t (q.ex.length:Int))),aI B l,box ga 24 3 [.int .i64 e.op,.int .i64 e.lt,s]]) (fun z=>aB z) aU (fun _ hJ=>?_) (fun z hg=>?_)
 ·try (conv=>enter [2,2];simp only [cE])
  refine .jG _ 15 (fun _ hw=>hw.pk [6]) mixed ?_
  refine .FS (fun _ hw=>hw.pk [6]) 0 14 15 1 rfl (.move rfl) trivial ?_
  refine .FS (fun _ hw=>hw.pk [6]) 1 13 15 3 rfl (.nilCheck rfl) trivial ?_
  refine .FS (fun _ hw=>hw.pk [6]) 2 12 15 7 rfl (.fieldAddr eE rfl) trivial ?_
  refine .FS (fun _ hw=>hw.pk [6]) 3 11 15 15 rfl (.fieldAddr kH rfl) trivial ?_
  refine .FS (fun _ hw=>hw.pk [6]) 5 10 15 47 rfl (.ak aM rfl ax rfl rfl) trivial ?_
  refine .two 4 7 (fuel:=9) (fD:=(lb 15 63)) (fC:=(lb 15 175)) cx rfl rfl cx cx ?_ ?_
  ·refine .v (.aa du rfl ax rfl) (.nil ?_)
   try (conv=>enter [2,2];simp only [cE])
   refine ay.bo (fun _ hw=>hw.pk [6]) ?_
   refine .two 6 7 (fuel:=8) (fD:=(lb 15 127)) (fC:=(lb 15 191)) cx rfl rfl cx cx ?_ ?_
   ·refine .v (.aZ aR rfl a8) (.nil ?_)
    try (conv=>enter [2,2];simp only [cE])
    refine ay.bo (fun _ hw=>hw.pk [6]) ?_
    refine .O 7 7 15 255 rfl ?_
    refine .lit (xs:=[.const (.agg #[.int .i64 0,.int .i64 0,.slice none 0 0])]) aR cC rfl rfl rfl (by simp [Value.cells]) (by decide) (by decide) trivial rfl (fun lv=>?_)
    refine .nil ?_
    try (conv=>enter [2,2];simp only [cE])
    refine ay.bo (fun _ hw=>hw.pk [6]) ?_
    refine .O 8 6 15 511 rfl ?_
    refine .gA 1 rfl aR cC rfl (by decide) rfl rfl rfl a8 (aw rfl (aw rfl (aw rfl bY))) (by omega) (by omega) trivial rfl (fun v2=>?_)
    refine .shape 1 rfl (fun ku=>?_)
    refine .nil ?_
    try (conv=>enter [2,2];simp only [cE])
    refine ay.bo (fun _ hw=>hw.pk [6]) ?_
    refine .FS (fun _ hw=>hw.pk [6]) 11 5 15 2559 rfl (.nilCheck rfl) trivial ?_
    refine .FS (fun _ hw=>hw.pk [6]) 12 4 15 6655 rfl (.fieldAddr eE rfl) trivial ?_
    refine .FS (fun _ hw=>hw.pk [6]) 13 3 15 14847 rfl (.fieldAddr kH rfl) trivial ?_
    refine .two 9 14 (fuel:=2) (fD:=(lb 15 15359)) (fC:=(lb 15 31231)) cx rfl rfl cx cx ?_ ?_
    ·refine .v (.iN aR rfl rfl) (.nil ?_)
     try (conv=>enter [2,2];simp only [cE])
     refine ay.bo (fun _ hw=>hw.pk [6]) ?_
     refine .two 10 14 (fuel:=1) (fD:=(lb 15 16383)) (fC:=(lb 15 31743)) cx rfl rfl cx cx ?_ ?_
     ·refine .fV 1 rfl cy rfl rfl rfl rfl (aw rfl (aw rfl (aw (aB.one ss) bY))) (by omega) (cs':=dc (q.ex++[e]) (es++[s])) (kC Hr e s _ rfl) trivial ?_
      refine .nil ?_
      try (conv=>enter [2,2];simp only [cE])
      refine ay.bo (fun _ hw=>hw.pk [6]) ?_
      refine .O 14 0 15 32767 rfl ?_
      refine .ah 0 (us:=[v2]) (cs':=[.int .i64 (q.L:Int),v2,vN,.int .i64 (q.dn:Int),.map (some mb)]) rfl zY rfl rfl (by rw [aB.cells ku]) rfl aJ (aT rfl) rfl trivial ?_
      refine .nil ?_
      try (conv=>enter [2,2];simp only [cE])
      refine ay.bo (fun _ hw=>hw.pk [6]) ?_
      refine .done cx ?_
      exact hJ _ _ (v2) ku (aU) (fun w hw=>by first | exact hw.dG [0,1,2,3,4,5,6] (by decide) qn)
     ·refine .ah 0 (us:=[v2]) (cs':=[.int .i64 (q.L:Int),v2,vN,.int .i64 (q.dn:Int),.map (some mb)]) rfl zY rfl rfl (by rw [aB.cells ku]) rfl aJ (aT rfl) rfl trivial ?_
      refine .nil ?_
      try (conv=>enter [2,2];simp only [cE])
      refine ay.bo (fun _ hw=>hw.pk [6]) ?_
      refine .O 10 0 15 32767 rfl ?_
      refine .fV 1 rfl cy rfl rfl rfl rfl (aw rfl (aw rfl (aw (aB.one ss) bY))) (by omega) (cs':=dc (q.ex++[e]) (es++[s])) (kC Hr e s _ rfl) trivial ?_
      refine .nil ?_
      try (conv=>enter [2,2];simp only [cE])
      refine ay.bo (fun _ hw=>hw.pk [6]) ?_
      refine .done cx ?_
      exact hJ _ _ (v2) ku (aU) (fun w hw=>by first | exact hw.dG [0,1,2,3,4,5,6] (by decide) qn)
    ·refine .ah 0 (us:=[v2]) (cs':=[.int .i64 (q.L:Int),v2,vN,.int .i64 (q.dn:Int),.map (some mb)]) rfl zY rfl rfl (by rw [aB.cells ku]) rfl aJ (aT rfl) rfl trivial ?_
     refine .nil ?_
     try (conv=>enter [2,2];simp only [cE])
     refine ay.bo (fun _ hw=>hw.pk [6]) ?_
     refine .O 9 1 15 31743 rfl ?_
     refine .v (.iN aR rfl rfl) (.nil ?_)
     try (conv=>enter [2,2];simp only [cE])
     refine ay.bo (fun _ hw=>hw.pk [6]) ?_
     refine .O 10 0 15 32767 rfl ?_
     refine .fV 1 rfl cy rfl rfl rfl rfl (aw rfl (aw rfl (aw (aB.one ss) bY))) (by omega) (cs':=dc (q.ex++[e]) (es++[s])) (kC Hr e s _ rfl) trivial ?_
     refine .nil ?_
     try (conv=>enter [2,2];simp only [cE])
     refine ay.bo (fun _ hw=>hw.pk [6]) ?_
     refine .done cx ?_
     exact hJ _ _ (v2) ku (aU) (fun w hw=>by first | exact hw.dG [0,1,2,3,4,5,6] (by decide) qn)
   ·refine .lit (xs:=[.const (.agg #[.int .i64 0,.int .i64 0,.slice none 0 0])]) aR cC rfl rfl rfl (by simp [Value.cells]) (by decide) (by decide) trivial rfl (fun lv=>?_)
    refine .nil ?_
    try (conv=>enter [2,2];simp only [cE])
    refine ay.bo (fun _ hw=>hw.pk [6]) ?_
    refine .O 6 7 15 255 rfl ?_
    refine .v (.aZ aR rfl a8) (.nil ?_)
    try (conv=>enter [2,2];simp only [cE])
    refine ay.bo (fun _ hw=>hw.pk [6]) ?_
    refine .O 8 6 15 511 rfl ?_
    refine .gA 1 rfl aR cC rfl (by decide) rfl rfl rfl a8 (aw rfl (aw rfl (aw rfl bY))) (by omega) (by omega) trivial rfl (fun v2=>?_)
    refine .shape 1 rfl (fun ku=>?_)
    refine .nil ?_
    try (conv=>enter [2,2];simp only [cE])
    refine ay.bo (fun _ hw=>hw.pk [6]) ?_
    refine .FS (fun _ hw=>hw.pk [6]) 11 5 15 2559 rfl (.nilCheck rfl) trivial ?_
    refine .FS (fun _ hw=>hw.pk [6]) 12 4 15 6655 rfl (.fieldAddr eE rfl) trivial ?_
    refine .FS (fun _ hw=>hw.pk [6]) 13 3 15 14847 rfl (.fieldAddr kH rfl) trivial ?_
    refine .two 9 14 (fuel:=2) (fD:=(lb 15 15359)) (fC:=(lb 15 31231)) cx rfl rfl cx cx ?_ ?_
    ·refine .v (.iN aR rfl rfl) (.nil ?_)
     try (conv=>enter [2,2];simp only [cE])
     refine ay.bo (fun _ hw=>hw.pk [6]) ?_
     refine .two 10 14 (fuel:=1) (fD:=(lb 15 16383)) (fC:=(lb 15 31743)) cx rfl rfl cx cx ?_ ?_
     ·refine .fV 1 rfl cy rfl rfl rfl rfl (aw rfl (aw rfl (aw (aB.one ss) bY))) (by omega) (cs':=dc (q.ex++[e]) (es++[s])) (kC Hr e s _ rfl) trivial ?_
      refine .nil ?_
      try (conv=>enter [2,2];simp only [cE])
      refine ay.bo (fun _ hw=>hw.pk [6]) ?_
      refine .O 14 0 15 32767 rfl ?_
      refine .ah 0 (us:=[v2]) (cs':=[.int .i64 (q.L:Int),v2,vN,.int .i64 (q.dn:Int),.map (some mb)]) rfl zY rfl rfl (by rw [aB.cells ku]) rfl aJ (aT rfl) rfl trivial ?_
      refine .nil ?_
      try (conv=>enter [2,2];simp only [cE])
      refine ay.bo (fun _ hw=>hw.pk [6]) ?_
      refine .done cx ?_
      exact hJ _ _ (v2) ku (aU) (fun w hw=>by first | exact hw.dG [0,1,2,3,4,5,6] (by decide) qn)
     ·refine .ah 0 (us:=[v2]) (cs':=[.int .i64 (q.L:Int),v2,vN,.int .i64 (q.dn:Int),.map (some mb)]) rfl zY rfl rfl (by rw [aB.cells ku]) rfl aJ (aT rfl) rfl trivial ?_
      refine .nil ?_
      try (conv=>enter [2,2];simp only [cE])
      refine ay.bo (fun _ hw=>hw.pk [6]) ?_
      refine .O 10 0 15 32767 rfl ?_
      refine .fV 1 rfl cy rfl rfl rfl rfl (aw rfl (aw rfl (aw (aB.one ss) bY))) (by omega) (cs':=dc (q.ex++[e]) (es++[s])) (kC Hr e s _ rfl) trivial ?_
      refine .nil ?_
      try (conv=>enter [2,2];simp only [cE])
      refine ay.bo (fun _ hw=>hw.pk [6]) ?_
      refine .done cx ?_
      exact hJ _ _ (v2) ku (aU) (fun w hw=>by first | exact hw.dG [0,1,2,3,4,5,6] (by decide) qn)
    ·refine .ah 0 (us:=[v2]) (cs':=[.int .i64 (q.L:Int),v2,vN,.int .i64 (q.dn:Int),.map (some mb)]) rfl zY rfl rfl (by rw [aB.cells ku]) rfl aJ (aT rfl) rfl trivial ?_
     refine .nil ?_
     try (conv=>enter [2,2];simp only [cE])
     refine ay.bo (fun _ hw=>hw.pk [6]) ?_
     refine .O 9 1 15 31743 rfl ?_
     refine .v (.iN aR rfl rfl) (.nil ?_)
     try (conv=>enter [2,2];simp only [cE])
     refine ay.bo (fun _ hw=>hw.pk [6]) ?_
     refine .O 10 0 15 32767 rfl ?_
     refine .fV 1 rfl cy rfl rfl rfl rfl (aw rfl (aw rfl (aw (aB.one ss) bY))) (by omega) (cs':=dc (q.ex++[e]) (es++[s])) (kC Hr e s _ rfl) trivial ?_
     refine .nil ?_
     try (conv=>enter [2,2];simp only [cE])
     refine ay.bo (fun _ hw=>hw.pk [6]) ?_
     refine .done cx ?_
     exact hJ _ _ (v2) ku (aU) (fun w hw=>by first | exact hw.dG [0,1,2,3,4,5,6] (by decide) qn)
  ·refine .lit (xs:=[.const (.agg #[.int .i64 0,.int .i64 0,.slice none 0 0])]) aR cC rfl rfl rfl (by simp [Value.cells]) (by decide) (by decide) trivial rfl (fun lv=>?_)
   refine .nil ?_
   try (conv=>enter [2,2];simp only [cE])
   refine ay.bo (fun _ hw=>hw.pk [6]) ?_
   refine .O 4 8 15 191 rfl ?_
   refine .v (.aa du rfl ax rfl) (.nil ?_)
   try (conv=>enter [2,2];simp only [cE])
   refine ay.bo (fun _ hw=>hw.pk [6]) ?_
   refine .O 6 7 15 255 rfl ?_
   refine .v (.aZ aR rfl a8) (.nil ?_)
   try (conv=>enter [2,2];simp only [cE])
   refine ay.bo (fun _ hw=>hw.pk [6]) ?_
   refine .O 8 6 15 511 rfl ?_
   refine .gA 1 rfl aR cC rfl (by decide) rfl rfl rfl a8 (aw rfl (aw rfl (aw rfl bY))) (by omega) (by omega) trivial rfl (fun v2=>?_)
   refine .shape 1 rfl (fun ku=>?_)
   refine .nil ?_
   try (conv=>enter [2,2];simp only [cE])
   refine ay.bo (fun _ hw=>hw.pk [6]) ?_
   refine .FS (fun _ hw=>hw.pk [6]) 11 5 15 2559 rfl (.nilCheck rfl) trivial ?_
   refine .FS (fun _ hw=>hw.pk [6]) 12 4 15 6655 rfl (.fieldAddr eE rfl) trivial ?_
   refine .FS (fun _ hw=>hw.pk [6]) 13 3 15 14847 rfl (.fieldAddr kH rfl) trivial ?_
   refine .two 9 14 (fuel:=2) (fD:=(lb 15 15359)) (fC:=(lb 15 31231)) cx rfl rfl cx cx ?_ ?_
   ·refine .v (.iN aR rfl rfl) (.nil ?_)
    try (conv=>enter [2,2];simp only [cE])
    refine ay.bo (fun _ hw=>hw.pk [6]) ?_
    refine .two 10 14 (fuel:=1) (fD:=(lb 15 16383)) (fC:=(lb 15 31743)) cx rfl rfl cx cx ?_ ?_
    ·refine .fV 1 rfl cy rfl rfl rfl rfl (aw rfl (aw rfl (aw (aB.one ss) bY))) (by omega) (cs':=dc (q.ex++[e]) (es++[s])) (kC Hr e s _ rfl) trivial ?_
     refine .nil ?_
     try (conv=>enter [2,2];simp only [cE])
     refine ay.bo (fun _ hw=>hw.pk [6]) ?_
     refine .O 14 0 15 32767 rfl ?_
     refine .ah 0 (us:=[v2]) (cs':=[.int .i64 (q.L:Int),v2,vN,.int .i64 (q.dn:Int),.map (some mb)]) rfl zY rfl rfl (by rw [aB.cells ku]) rfl aJ (aT rfl) rfl trivial ?_
     refine .nil ?_
     try (conv=>enter [2,2];simp only [cE])
     refine ay.bo (fun _ hw=>hw.pk [6]) ?_
     refine .done cx ?_
     exact hJ _ _ (v2) ku (aU) (fun w hw=>by first | exact hw.dG [0,1,2,3,4,5,6] (by decide) qn)
    ·refine .ah 0 (us:=[v2]) (cs':=[.int .i64 (q.L:Int),v2,vN,.int .i64 (q.dn:Int),.map (some mb)]) rfl zY rfl rfl (by rw [aB.cells ku]) rfl aJ (aT rfl) rfl trivial ?_
     refine .nil ?_
     try (conv=>enter [2,2];simp only [cE])
     refine ay.bo (fun _ hw=>hw.pk [6]) ?_
     refine .O 10 0 15 32767 rfl ?_
     refine .fV 1 rfl cy rfl rfl rfl rfl (aw rfl (aw rfl (aw (aB.one ss) bY))) (by omega) (cs':=dc (q.ex++[e]) (es++[s])) (kC Hr e s _ rfl) trivial ?_
     refine .nil ?_
     try (conv=>enter [2,2];simp only [cE])
     refine ay.bo (fun _ hw=>hw.pk [6]) ?_
     refine .done cx ?_
     exact hJ _ _ (v2) ku (aU) (fun w hw=>by first | exact hw.dG [0,1,2,3,4,5,6] (by decide) qn)
   ·refine .ah 0 (us:=[v2]) (cs':=[.int .i64 (q.L:Int),v2,vN,.int .i64 (q.dn:Int),.map (some mb)]) rfl zY rfl rfl (by rw [aB.cells ku]) rfl aJ (aT rfl) rfl trivial ?_
    refine .nil ?_
    try (conv=>enter [2,2];simp only [cE])
    refine ay.bo (fun _ hw=>hw.pk [6]) ?_
    refine .O 9 1 15 31743 rfl ?_
    refine .v (.iN aR rfl rfl) (.nil ?_)
    try (conv=>enter [2,2];simp only [cE])
    refine ay.bo (fun _ hw=>hw.pk [6]) ?_
    refine .O 10 0 15 32767 rfl ?_
    refine .fV 1 rfl cy rfl rfl rfl rfl (aw rfl (aw rfl (aw (aB.one ss) bY))) (by omega) (cs':=dc (q.ex++[e]) (es++[s])) (kC Hr e s _ rfl) trivial ?_
    refine .nil ?_
    try (conv=>enter [2,2];simp only [cE])
    refine ay.bo (fun _ hw=>hw.pk [6]) ?_
    refine .done cx ?_
    exact hJ _ _ (v2) ku (aU) (fun w hw=>by first | exact hw.dG [0,1,2,3,4,5,6] (by decide) qn)
 ·skip
  refine .ab (cr _ ?_)
  refine .sr fun _ cJ=>?_
  refine .mv rfl (.as rfl (.nt cJ (.ret ?_)))
  refine .aG rfl rfl (fun w hw=>⟨_,_,_,?_,rfl,kq.ez (hw.pk [0,1,2,3,4,5])⟩)
  refine ⟨rfl,rfl,z,es++[s],hq.add XY bZ hm ss hg,?_⟩
  simp only [qg,List.length_append,List.length_singleton]
  rfl
set_option maxHeartbeats 400000 in
theorem R5 (w:World) (rb mb:Nat) (vE vN:Value) (es:List Value) (q:mZ) (hb:qL w rb [.int .i64 (q.L:Int),vE,vN,.int .i64 (q.dn:Int),.map (some mb)]) (hr:Rd (fun b=>¬ (fun _=>False) b) w vE 3 q.ex.length (dc q.ex es)):aK Tryz.prog 46 [.pointer (some ⟨rb,0,none⟩)] w (fun r o=>r = .bool (decide (q.dn=q.ex.length))∧o=[]):=by
 have hbx:iF ⟨Tryz.prog,Tryz.f46.ntmps,w,fun _=>False⟩ [] rb [.int .i64 (q.L:Int),vE,vN,.int .i64 (q.dn:Int),.map (some mb)]:=iF.arg hb
 refine aC Tryz.func46 rfl (aT rfl) ?_
 refine .sr fun _ bl=>?_
 refine .as rfl (.nt bl ?_)
 refine .seq fun _ bg=>?_
 refine .quiet mixed cx ?_
 refine .mv rfl (.v (.nilCheck rfl) (.v (.fieldAddr eE rfl) (.v (.fieldAddr vR rfl) (.v (.aa cQ rfl ax rfl) (.mv rfl (.v (.nilCheck rfl) (.v (.fieldAddr eE rfl) ?_)))))))
 refine .v (.fieldAddr kH rfl) (.v (.aa du rfl ax rfl) (.v (.aZ aR rfl a8) (.v (.eql rfl rfl) (.as rfl (.nil (QK.fin ?_))))))
 refine .ab (bg _ ?_)
 refine .ret ?_
 refine .aG rfl rfl (fun w hw=>⟨_,_,?_,rfl,.of (hw.pk [])⟩)
 refine ⟨congrArg Value.bool ?_,rfl⟩
 exact decide_eq_decide.2 (by omega)
set_option maxHeartbeats 1000000 in
theorem NX (w:World) (F:Nat→Prop) (B:Bs) (l:List cw) (hB:gI B w F) (hA:(aI B l).holds w F) (e:Ex) (s:Value) (hm:cw.deep s e.kids∈l) (ss:aB s) (L:Nat) (hL:L≤6) (q2:mZ) (ha:qV ⟨L,[],[],0,[]⟩ e=some q2):ck Tryz.prog 44 [.agg #[.int .i64 e.op,.int .i64 e.lt,s],.int .i64 (L:Int)] w F (fun r A o=>∃ rb mb vE es,r = .pointer (some ⟨rb,0,none⟩)∧oI vE aW es [] q2 l∧A=bh (qg 137 24 67 3 rb mb vE aW es [] q2 B l)∧o=[]):=by
 refine cu Tryz.func44 rfl (aT rfl) hA ?_
 refine .sr fun _ bl=>?_
 refine .cS (E:=24) (cs:=[.int .i64 e.op,.int .i64 e.lt,s]) rfl rfl rfl trivial rfl (fun eu=>?_)
 refine .as rfl (.nt bl ?_)
 refine .sr fun _ bg=>?_
 refine .makeMap trivial rfl (fun mb=>?_)
 refine .v (.build (parts:=[(1,.tmp 6)]) (cs:=#[.int .i64 0,.slice none 0 0,.slice none 0 0,.int .i64 0,.map (some mb)]) rfl (by kernel_rfl)) ?_
 refine .cS (E:=137) (cs:=[.int .i64 0,aW,aW,.int .i64 0,.map (some mb)]) rfl rfl rfl trivial rfl (fun rb=>?_)
 refine .as rfl (.nt bg ?_)
 refine .sr fun _ bW=>?_
 refine .mv rfl (.mv rfl (.v (.nilCheck rfl) (.v (.fieldAddr eE rfl) (.v (.fieldAddr Bw rfl) ?_))))
 refine .ah 3 (us:=[.int .i64 (L:Int)]) (cs':=[.int .i64 (L:Int),aW,aW,.int .i64 0,.map (some mb)]) rfl tf rfl rfl rfl rfl aJ (aT rfl) rfl trivial ?_
 refine .nt bW ?_
 refine .sr fun _ cr=>?_
 refine .mv rfl (.v (.ak aM rfl ax rfl rfl) ?_)
 refine .ghost 24 3 ?_
 refine .ghost 67 1 ?_
 refine .own' _ (fun w hw=>HW.lW (f:=Value.int .i64) 3 hw) ?_
 refine .own' [bh (qg 137 24 67 3 rb mb aW aW [] [] ⟨L,[],[],0,[]⟩ B l)] (fun w hw=>by have h:=HW.fU (l:=[_,_,_,_,_,_]) (own:=[]) (hw.pk [3,4,5,6,2,0]);exact h) ?_
 refine .aY 0 rfl UD rfl (fun w Fs hw hh bI bc=>Ki w (Fs 0) B l (hB.later bI bc 0) rb mb aW aW [] [] ⟨L,[],[],0,[]⟩ ⟨rfl,kJ.nil _ _,rfl,cq,cq,by simp,by simp,rfl,hL⟩ (hh.at_ 0 _ rfl) e s hm ss q2 ha (by simp)) trivial rfl ?_
 rintro r A o ⟨rfl,rfl,v2,Hu,I2,rfl⟩
 refine .nt cr ?_
 refine .sr fun _ cJ=>?_
 refine .mv rfl (.as rfl (.nt cJ (.ret ?_)))
 refine .aG rfl rfl (fun w hw=>⟨_,_,_,?_,rfl,.of (hw.pk [0])⟩)
 exact ⟨rb,mb,v2,Hu,rfl,I2,rfl,rfl⟩
end Go.Proofs.YtbibnpdnmmgacaaGreatDoor
namespace Go.Proofs.YtbibnpdnmmgacaaGreatDoor
open Go.Sx Go.RowKit
set_option maxHeartbeats 4000000 in
theorem NO (w:World) (F:Nat→Prop) (B:Bs) (l:List cw) (hB:gI B w F) (rb mb:Nat) (vE vN:Value) (es rs:List Value) (q:mZ) (hq:oI vE vN es rs q l) (hA:(bh (qg 137 24 67 3 rb mb vE vN es rs q B l)).holds w F) (Hs:q.dn<q.ex.length) (res:mZ × Int) (hp:wo q=some res):ck Tryz.prog 47 [.pointer (some ⟨rb,0,none⟩)] w F (fun r A o=>r = .int .i64 res.2∧o=[]∧(res.2=0→∃ Wj BN Hu IM l2,oI Wj BN Hu IM res.1 l2∧A=bh (qg 137 24 67 3 rb mb Wj BN Hu IM res.1 B l2))):=by
 obtain ⟨f,hf,Q8⟩:=E3 hp
 have hLb:=hq.Lb
 unfold qg at hA
 refine dW Tryz.func47 rfl (aT rfl) hA ?_
 refine .sr fun _ bl=>?_
 refine .as rfl (.nt bl ?_)
 refine .sr fun _ bg=>?_
 refine .mv rfl (.v (.nilCheck rfl) (.v (.fieldAddr eE rfl) (.v (.fieldAddr Bw rfl) (.v (.aa cQ rfl ax rfl) ?_))))
 refine .kT bX uL rfl rfl rfl (by omega) (by omega) trivial rfl (fun iQ=>?_)
 refine .shape 6 rfl (fun B0=>?_)
 refine .as rfl (.nt bg ?_)
 refine .seq fun _ bW=>?_
 refine .sr fun _ cr=>?_
 refine .mv rfl (.v (.aZ bX rfl a8) (.mv rfl (.nt cr (.block ?_))))
 refine .bE (X:=List Int × mZ × Value × List Value × List cw) [(0,_),(3,_),(16,_)] (fun x=>[(17,.int .i64 (x.1.length:Int))]) (fun x=>[box rb 137 5 [.int .i64 (x.2.1.L:Int),x.2.2.1,vN,.int .i64 (x.2.1.dn:Int),.map (some mb)],row x.2.2.1 24 3 x.2.1.ex.length (dc x.2.1.ex x.2.2.2.1),row vN 67 1 x.2.1.nx.length rs,bh (dQ (Value.int .i64) 3 rs x.2.1.nx),mapA mb (kx sv (Value.int .i64) x.2.1.num),aI B x.2.2.2.2,row iQ 3 1 q.L ((x.1++List.replicate (q.L - x.1.length) 0).map (Value.int .i64))]) (fun x=>x.1.length≤q.L∧oI x.2.2.1 vN x.2.2.2.1 rs x.2.1 x.2.2.2.2∧qM (q.L - x.1.length) x.1.length x.2.1 x.1=some f∧x.2.1.L=q.L∧x.2.1.nx=q.nx∧x.2.1.dn=q.dn∧q.dn<x.2.1.ex.length) (fun x=>q.L - x.1.length) (([],q,vE,es,l)) aU ?_ ?_ ?_ ?_
 ·exact ⟨Nat.zero_le _,hq,hf,rfl,rfl,rfl,Hs⟩
 ·exact aU
 ·exact fun w hw=>by simpa using hw
 ·intro x aV _ cJ
  refine .sr fun _ cU=>?_
  refine .v (.lss rfl rfl) (.nt cU ?_)
  refine .seq fun _ c7=>?_
  refine .aA rfl (fun bx=>?_) (fun bx=>?_)
  ·have eo:x.1.length<q.L:=by omega
   obtain ⟨m,hm⟩:∃ m,q.L - x.1.length=m+1:=⟨q.L - x.1.length - 1,by omega⟩
   have gG:q.L - (x.1.length+1)=m:=by omega
   have tz:=aV.2.2.1
   rw [hm] at tz
   obtain ⟨p,O6,oU⟩:=Ib tz
   have T3:=aV.2.1
   have Hr:=T3.eL
   have hdd:x.2.1.dn<x.2.1.ex.length:=by have a:=aV.2.2.2.2.2.1;have b:=aV.2.2.2.2.2.2;omega
   have hle:=T3.le
   refine .skip ?_
   refine .ab (c7 _ ?_)
   refine .seq fun _ dm=>?_
   refine .block ?_
   refine .sr fun _ dD=>?_
   refine .mv rfl (.as rfl (.nt dD ?_))
   refine .seq fun _ bJ=>?_
   refine .oM (X:=Value × List cw × Nat) [(0,_),(3,_),(4,_),(16,_),(17,_)] (fun z=>[(5,.pointer (some ⟨z.2.2,0,none⟩)),(6,.int .i64 p.2)]) (fun z=>[box rb 137 5 [.int .i64 (x.2.1.L:Int),x.2.2.1,vN,.int .i64 (x.2.1.dn:Int),.map (some mb)],row x.2.2.1 24 3 x.2.1.ex.length (dc x.2.1.ex x.2.2.2.1),row vN 67 1 x.2.1.nx.length rs,bh (dQ (Value.int .i64) 3 rs x.2.1.nx),mapA mb (kx sv (Value.int .i64) x.2.1.num),aI B z.2.1,row iQ 3 1 q.L ((x.1++List.replicate (q.L - x.1.length) 0).map (Value.int .i64)),box z.2.2 24 3 [.int .i64 p.1.op,.int .i64 p.1.lt,z.1]]) (fun z=>aB z.1∧(∀ y∈x.2.2.2.2,y∈z.2.1)∧cw.deep z.1 p.1.kids∈z.2.1) aU (fun _ hJ=>?_) (fun z hg=>?_)
   ·try (conv=>enter [2,2];simp only [cE])
    refine .jG _ 20 (fun _ hw=>hw.pk [0,1]) mixed ?_
    refine .FS (fun _ hw=>hw.pk [0,1]) 0 19 20 1 rfl (.move rfl) trivial ?_
    refine .FS (fun _ hw=>hw.pk [0,1]) 1 18 20 3 rfl (.nilCheck rfl) trivial ?_
    refine .FS (fun _ hw=>hw.pk [0,1]) 2 17 20 7 rfl (.fieldAddr eE rfl) trivial ?_
    refine .FS (fun _ hw=>hw.pk [0,1]) 3 16 20 15 rfl (.fieldAddr kH rfl) trivial ?_
    refine .FS (fun _ hw=>hw.pk [0,1]) 4 15 20 31 rfl (.aa du rfl ax rfl) trivial ?_
    refine .FS (fun _ hw=>hw.pk [0,1]) 5 14 20 63 rfl (.move rfl) trivial ?_
    refine .FS (fun _ hw=>hw.pk [0,1]) 6 13 20 127 rfl (.nilCheck rfl) trivial ?_
    refine .FS (fun _ hw=>hw.pk [0,1]) 7 12 20 255 rfl (.fieldAddr eE rfl) trivial ?_
    refine .FS (fun _ hw=>hw.pk [0,1]) 8 11 20 511 rfl (.fieldAddr vR rfl) trivial ?_
    refine .FS (fun _ hw=>hw.pk [0,1]) 9 10 20 1023 rfl (.aa cQ rfl ax rfl) trivial ?_
    refine .FS (fun _ hw=>hw.pk [0,1]) 10 9 20 2047 rfl (.iN aR rfl rfl) trivial ?_
    refine .FS (fun _ hw=>hw.pk [0,1]) 11 8 20 4095 rfl (.da aM rfl a8 Hr rfl (by omega)) trivial ?_
    refine .FS (fun _ hw=>hw.pk [0,1]) 12 7 20 8191 rfl (.move rfl) trivial ?_
    refine .two 13 17 (fuel:=6) (fD:=(lb 20 16383)) (fC:=(lb 20 139263)) cx rfl rfl cx cx ?_ ?_
    ·refine .aY 5 rfl UK rfl (fun w Fs hw hh bI bc=>xH (x.1.length:Int) _ w (Fs 5) B x.2.2.2.2 (hB.later bI bc 5) (hh.at_ 5 _ rfl) _ (T3.g.d _ (by omega)) p O6) trivial rfl ?_
     rintro r A o ⟨sp,l2,rfl,W9,rfl,dX,Rf,rfl⟩
     refine .nil ?_
     try (conv=>enter [2,2];simp only [cE])
     refine ay.bo (fun _ hw=>hw.pk [0,1]) ?_
     refine .FS (fun _ hw=>hw.pk [0,1]) 14 5 20 32767 rfl (.move rfl) trivial ?_
     refine .FS (fun _ hw=>hw.pk [0,1]) 15 4 20 65535 rfl (.extract rfl rfl) trivial ?_
     refine .FS (fun _ hw=>hw.pk [0,1]) 16 3 20 131071 rfl (.extract rfl rfl) trivial ?_
     refine .O 17 2 20 262143 rfl ?_
     refine .alloc cC rfl rfl trivial rfl (fun D4=>?_)
     refine .nil ?_
     try (conv=>enter [2,2];simp only [cE])
     refine ay.bo (fun _ hw=>hw.pk [0,1]) ?_
     refine .O 18 1 20 524287 rfl ?_
     refine .ah 7 (us:=[.int .i64 p.1.op,.int .i64 p.1.lt,sp]) (cs':=[.int .i64 p.1.op,.int .i64 p.1.lt,sp]) rfl cy rfl rfl rfl rfl aJ (aT rfl) rfl trivial ?_
     refine .nil ?_
     try (conv=>enter [2,2];simp only [cE])
     refine ay.bo (fun _ hw=>hw.pk [0,1]) ?_
     refine .FS (fun _ hw=>hw.pk [0,1]) 19 0 20 1048575 rfl (.assign rfl) trivial ?_
     refine .done cx ?_
     exact hJ _ _ ((sp,l2,D4)) ⟨W9,dX,Rf⟩ (aU) (fun w hw=>by first | exact hw.dG [0,1,2,3,4,5,6,7] (by decide) qn)
    ·refine .alloc cC rfl rfl trivial rfl (fun D4=>?_)
     refine .nil ?_
     try (conv=>enter [2,2];simp only [cE])
     refine ay.bo (fun _ hw=>hw.pk [0,1]) ?_
     refine .O 13 5 20 147455 rfl ?_
     refine .aY 5 rfl UK rfl (fun w Fs hw hh bI bc=>xH (x.1.length:Int) _ w (Fs 5) B x.2.2.2.2 (hB.later bI bc 5) (hh.at_ 5 _ rfl) _ (T3.g.d _ (by omega)) p O6) trivial rfl ?_
     rintro r A o ⟨sp,l2,rfl,W9,rfl,dX,Rf,rfl⟩
     refine .nil ?_
     try (conv=>enter [2,2];simp only [cE])
     refine ay.bo (fun _ hw=>hw.pk [0,1]) ?_
     refine .FS (fun _ hw=>hw.pk [0,1]) 14 4 20 163839 rfl (.move rfl) trivial ?_
     refine .FS (fun _ hw=>hw.pk [0,1]) 15 3 20 196607 rfl (.extract rfl rfl) trivial ?_
     refine .FS (fun _ hw=>hw.pk [0,1]) 16 2 20 262143 rfl (.extract rfl rfl) trivial ?_
     refine .O 18 1 20 524287 rfl ?_
     refine .ah 7 (us:=[.int .i64 p.1.op,.int .i64 p.1.lt,sp]) (cs':=[.int .i64 p.1.op,.int .i64 p.1.lt,sp]) rfl cy rfl rfl rfl rfl aJ (aT rfl) rfl trivial ?_
     refine .nil ?_
     try (conv=>enter [2,2];simp only [cE])
     refine ay.bo (fun _ hw=>hw.pk [0,1]) ?_
     refine .FS (fun _ hw=>hw.pk [0,1]) 19 0 20 1048575 rfl (.assign rfl) trivial ?_
     refine .done cx ?_
     exact hJ _ _ ((sp,l2,D4)) ⟨W9,dX,Rf⟩ (aU) (fun w hw=>by first | exact hw.dG [0,1,2,3,4,5,6,7] (by decide) qn)
   ·have sz:=hg.1
    refine .ab (bJ _ ?_)
    refine .seq fun _ bP=>?_
    refine .sr fun _ ct=>?_
    refine .mv rfl (.v (.neq rfl rfl) (.nt ct ?_))
    refine .df rfl (fun cB=>?_) (fun cB=>?_)
    ·refine .sr fun _ cK=>?_
     refine .mv rfl (.as rfl (.nt cK (.ret (.ae (.al (.ae (.ae (.al (.ae ?_)))))))))
     refine .aG rfl rfl (fun w hw=>⟨_,_,_,?_,rfl,kq.ez (hw.pk [0])⟩)
     have Hq:f=(x.2.1,x.1,p.2):=by
      rcases oU with ⟨_,h⟩ | ⟨h,_⟩
      ·exact h
      ·exact absurd h (by omega)
     subst Hq
     have wh:res=(x.2.1,p.2):=by rw [Q8];exact if_pos cB
     subst wh
     exact ⟨rfl,rfl,fun h=>absurd h cB⟩
    ·obtain ⟨_,t,ht,oU⟩:=oU.resolve_left (fun h=>h.1 (by omega))
     refine .skip ?_
     refine .ab (bP _ ?_)
     refine .seq fun _ cW=>?_
     refine .quiet mixed cx ?_
     refine .mv rfl (.v (.nilCheck rfl) (.v (.fieldAddr GX rfl) (.v (.aa Pw rfl ax rfl) (.v (.ak aM rfl ax rfl rfl) ?_))))
     refine .call (sv t) Qa rfl (fun w hw=>CM w p.1 z.1 (hw.qh hB 5 rfl hg.2.2) t ht) (fun r o h=>h.1) trivial rfl ?_
     refine .v (.k9 Px (GK DM) uL rfl rfl MF) (.mv rfl (.v (.extract rfl rfl) (.v (.extract rfl rfl) (.as rfl (.as rfl (.nil (QK.fin ?_)))))))
     refine .ab (cW _ ?_)
     refine .seq fun _ c8=>?_
     refine .sr fun _ dw=>?_
     refine .mv rfl (.v (.not rfl) (.nt dw ?_))
     refine .eW rfl (fun cZ=>?_) (fun cZ=>?_)
     ·have yf:dq x.2.1.num t=none:=by cases h:dq x.2.1.num t with | none=>rfl | some i=>rw [h] at cZ;cases cZ
      replace oU:=(oU.resolve_left (fun h=>by obtain ⟨i,h,_⟩:=h;rw [yf] at h;cases h)).2
      refine .seq fun _ dE=>?_
      refine .sr fun _ dR=>?_
      refine .mv rfl (.v (.nilCheck rfl) (.v (.fieldAddr eE rfl) (.v (.fieldAddr kH rfl) (.v (.aa du rfl ax rfl) (.v (.aZ aR rfl a8) (.v (.eql rfl rfl) (.nt dR ?_)))))))
      refine .aA rfl (fun iz=>?_) (fun iz=>?_)
      ·have Hq:f=(x.2.1,x.1,3):=by
        rcases oU with ⟨_,h⟩ | ⟨h,_⟩
        ·exact h
        ·exact absurd (by omega) h
       refine .sr fun _ dO=>?_
       refine .as rfl (.nt dO (.ret (.ae (.ae (.al (.ae (.ae (.al (.ae ?_)))))))))
       refine .aG rfl rfl (fun w hw=>⟨_,_,_,?_,rfl,kq.ez (hw.pk [0])⟩)
       subst Hq
       have wh:res=(x.2.1,3):=by rw [Q8];rfl
       subst wh
       exact ⟨rfl,rfl,fun h=>by cases h⟩
      ·obtain ⟨r2,tj,JR⟩:∃ r2,qV x.2.1 p.1=some r2∧qM m (x.1.length+1) r2 (x.1++[(x.2.1.ex.length:Int)])=some f:=by
        rcases oU with ⟨h,_⟩ | ⟨_,h⟩
        ·exact absurd (by omega) iz
        ·exact h
       obtain ⟨k1,k2,k3,k4⟩:=Fp tj
       refine .skip ?_
       refine .ab (dE _ ?_)
       refine .region ?_
       refine .mv rfl (.v (.ak aM rfl ax rfl rfl) ?_)
       refine .own' [bh (qg 137 24 67 3 rb mb x.2.2.1 vN x.2.2.2.1 rs x.2.1 B z.2.1),row iQ 3 1 q.L ((x.1++List.replicate (q.L - x.1.length) 0).map (Value.int .i64)),box z.2.2 24 3 [.int .i64 p.1.op,.int .i64 p.1.lt,z.1]] (fun w hw=>by have h:=HW.fU (l:=[_,_,_,_,_,_]) (own:=[_,_]) (hw.pk [0,1,2,3,4,5,6,7]);exact h) ?_
       refine .aY 0 rfl UD rfl (fun w Fs hw hh bI bc=>Ki w (Fs 0) B z.2.1 (hB.later bI bc 0) rb mb x.2.2.1 vN x.2.2.2.1 rs x.2.1 (T3.later hg.2.1) (hh.at_ 0 _ rfl) p.1 z.1 hg.2.2 sz r2 tj (by omega)) trivial rfl ?_
       rintro r A o ⟨rfl,rfl,v2,Hu,I2,rfl⟩
       refine .own' [box rb 137 5 [.int .i64 (r2.L:Int),v2,vN,.int .i64 (r2.dn:Int),.map (some mb)],row v2 24 3 r2.ex.length (dc r2.ex Hu),row vN 67 1 r2.nx.length rs,bh (dQ (Value.int .i64) 3 rs r2.nx),mapA mb (kx sv (Value.int .i64) r2.num),aI B z.2.1,row iQ 3 1 q.L ((x.1++List.replicate (q.L - x.1.length) 0).map (Value.int .i64)),box z.2.2 24 3 [.int .i64 p.1.op,.int .i64 p.1.lt,z.1]] (fun w hw=>by have h:=HW.flat (l:=qg 137 24 67 3 rb mb v2 vN Hu rs r2 B z.2.1) (own:=[_,_]) hw;exact h) ?_
       refine .as rfl (.nt c8 ?_)
       refine .region ?_
       refine .mv rfl (.mv rfl (.mv rfl (.v (.iN bX rfl rfl) ?_)))
       refine .di 6 rfl tf rfl rfl rfl rfl (by omega) (cs':=(((x.1++[(x.2.1.ex.length:Int)])++List.replicate (q.L - (x.1++[(x.2.1.ex.length:Int)]).length) 0).map (Value.int .i64))) ((by have h:=fJ (Value.int .i64) x.1 0 (x.2.1.ex.length:Int) q.L x.1.length rfl eo;simpa using h)) trivial ?_
       refine .nil (.ag ?_)
       refine .ab (dm _ ?_)
       refine .region ?_
       refine .v (.add rfl rfl (by omega)) ?_
       refine .mv rfl (.nil ?_)
       refine .ab (cJ _ _ ((x.1++[(x.2.1.ex.length:Int)],r2,v2,Hu,z.2.1)) ⟨by simp;omega,I2,by simpa [gG] using JR,k1.trans aV.2.2.2.1,k2.trans aV.2.2.2.2.1,k3.trans aV.2.2.2.2.2.1,by rw [k4];simp;omega⟩ (by simp;omega) (.cons (s9 rfl (by simp)) (aU)) (fun w hw=>by have h:=hw.pk [0,1,2,3,4,5,6];simpa using h))
     ·obtain ⟨i,hi,JR⟩:∃ i,dq x.2.1.num t=some i∧qM m (x.1.length+1) x.2.1 (x.1++[i])=some f:=by
       rcases oU with h | ⟨h,_⟩
       ·exact h
       ·rw [h] at cZ;cases cZ
      have hgi:(dq x.2.1.num t).getD 0=i:=by rw [hi];rfl
      rw [hgi]
      refine .skip ?_
      refine .ab (c8 _ ?_)
      refine .region ?_
      refine .mv rfl (.mv rfl (.mv rfl (.v (.iN bX rfl rfl) ?_)))
      refine .di 6 rfl tf rfl rfl rfl rfl (by omega) (cs':=(((x.1++[i])++List.replicate (q.L - (x.1++[i]).length) 0).map (Value.int .i64))) ((by have h:=fJ (Value.int .i64) x.1 0 i q.L x.1.length rfl eo;simpa using h)) trivial ?_
      refine .nil (.ag ?_)
      refine .ab (dm _ ?_)
      refine .region ?_
      refine .v (.add rfl rfl (by omega)) ?_
      refine .mv rfl (.nil ?_)
      refine .ab (cJ _ _ ((x.1++[i],x.2.1,x.2.2.1,x.2.2.2.1,z.2.1)) ⟨by simp;omega,aV.2.1.later hg.2.1,by simpa [gG] using JR,aV.2.2.2.1,aV.2.2.2.2.1,aV.2.2.2.2.2.1,aV.2.2.2.2.2.2⟩ (by simp;omega) (.cons (s9 rfl (by simp)) (aU)) (fun w hw=>by have h:=hw.pk [0,1,2,3,4,5,6];simpa using h))
  ·have XN:x.1.length=q.L:=by omega
   have tz:=aV.2.2.1
   rw [XN,Nat.sub_self,qM] at tz
   obtain rfl:(x.2.1,x.1,0)=f:=Option.some.inj tz
   have Mu:=aV.2.1.nl
   have aa7:=aV.2.1.le
   have hdd:x.2.1.dn<x.2.1.ex.length:=by have a:=aV.2.2.2.2.2.1;have b:=aV.2.2.2.2.2.2;omega
   refine .exit (.ai (.ai (.ar ?_)))
   refine .ab (bW _ ?_)
   refine .sr fun _ eJ=>?_
   refine .mv rfl (.mv rfl (.v (.nilCheck rfl) (.v (.fieldAddr eE rfl) (.v (.fieldAddr Bv rfl) (.v (.aa lC rfl ax rfl) (.mv rfl ?_))))))
   refine .fF 2 rfl kQ JD rfl (by decide) rfl (by intro k hk;cases hk;rfl) (by rw [B0.cells];rfl) (by rw [B0.cells];exact aw (aB.one B0) bY) (by omega) (by omega) (by decide) rfl rfl (fun yl _ Ub=>?_)
   refine .v (.nilCheck rfl) (.v (.fieldAddr eE rfl) (.v (.fieldAddr Bv rfl) ?_))
   refine .ah 0 (us:=[yl]) (cs':=[.int .i64 (x.2.1.L:Int),x.2.2.1,yl,.int .i64 (x.2.1.dn:Int),.map (some mb)]) rfl M0 rfl rfl (by rw [aB.cells Ub]) rfl aJ (aT rfl) rfl trivial ?_
   refine .nt eJ ?_
   refine .sr fun _ eY=>?_
   refine .mv rfl (.v (.nilCheck rfl) (.v (.fieldAddr eE rfl) (.v (.fieldAddr vR rfl) (.v (.aa cQ rfl ax rfl) ?_))))
   refine .v (.add rfl rfl (by omega)) ?_
   refine .v (.nilCheck rfl) (.v (.fieldAddr eE rfl) (.v (.fieldAddr vR rfl) ?_))
   refine .ah 0 (us:=[.int .i64 ((x.2.1.dn:Int)+1)]) (cs':=[.int .i64 (x.2.1.L:Int),x.2.2.1,yl,.int .i64 ((x.2.1.dn:Int)+1),.map (some mb)]) rfl tf rfl rfl rfl rfl aJ (aT rfl) rfl trivial ?_
   refine .nt eY ?_
   refine .sr fun _ eI=>?_
   refine .as rfl (.nt eI (.ret ?_))
   refine .own' [box rb 137 5 [.int .i64 (x.2.1.L:Int),x.2.2.1,yl,.int .i64 ((x.2.1.dn:Int)+1),.map (some mb)],row x.2.2.1 24 3 x.2.1.ex.length (dc x.2.1.ex x.2.2.2.1),row yl 67 1 (x.2.1.nx.length+1) (rs++[iQ]),bh (dQ (Value.int .i64) 3 (rs++[iQ]) (x.2.1.nx++[x.1])),mapA mb (kx sv (Value.int .i64) x.2.1.num),aI B x.2.2.2.2] (fun w hw=>by rw [B0.cells,XN,Nat.sub_self,List.replicate_zero,List.append_nil] at hw;have h:=HW.tR (own:=[_,_,_,_,_,_]) 3 rfl hw;rw [kL aV.2.1.rl,XN];exact h) ?_
   refine .aG rfl rfl (fun w hw=>⟨_,_,_,?_,rfl,kq.ez (hw.pk [0,1,2,3,4,5])⟩)
   have wh:res=({ x.2.1 with nx:=x.2.1.nx++[x.1],dn:=x.2.1.dn+1 },0):=by rw [Q8];rfl
   subst wh
   refine ⟨rfl,rfl,fun _=>⟨x.2.2.1,yl,x.2.2.2.1,rs++[iQ],x.2.2.2.2,aV.2.1.done hdd Ub _,?_⟩⟩
   simp only [qg,List.length_append,List.length_singleton]
   rfl
end Go.Proofs.YtbibnpdnmmgacaaGreatDoor
namespace Go.Proofs.YtbibnpdnmmgacaaGreatDoor
open Go.Sx Go.RowKit
set_option maxHeartbeats 1000000 in
theorem R7 (w:World) (F:Nat→Prop) (B:Bs) (l:List cw) (hB:gI B w F) (rb mb:Nat) (vE vN:Value) (es rs:List Value) (q:mZ) (hq:oI vE vN es rs q l) (hA:(bh (qg 137 24 67 3 rb mb vE vN es rs q B l)).holds w F):ck Tryz.prog 48 [.pointer (some ⟨rb,0,none⟩)] w F (fun r A o=>∃ vF,r = .agg #[.int .i64 (q.L:Int),.int .i64 0,vF,vN]∧aB vF∧A=bh (kg 4 3 67 vF vN rs (qU q))∧o=[]):=by
 have Hr:=hq.eL
 have hle:=hq.le
 have Tx:=hq.sN
 unfold qg at hA
 refine dW Tryz.func48 rfl (aT rfl) hA ?_
 refine .sr fun _ bl=>?_
 refine .alloc lR rfl rfl trivial rfl (fun eu=>?_)
 refine .nt bl ?_
 refine .seq fun _ bg=>?_
 try (conv=>enter [2,2];simp only [cE])
 refine .jG _ 12 (fun _ hw=>hw.pk [0]) mixed ?_
 refine .FS (fun _ hw=>hw.pk [0]) 0 12 13 1 rfl (.move rfl) trivial ?_
 refine .FS (fun _ hw=>hw.pk [0]) 1 11 13 3 rfl (.nilCheck rfl) trivial ?_
 refine .FS (fun _ hw=>hw.pk [0]) 2 10 13 7 rfl (.fieldAddr eE rfl) trivial ?_
 refine .FS (fun _ hw=>hw.pk [0]) 3 9 13 15 rfl (.fieldAddr Bw rfl) trivial ?_
 refine .FS (fun _ hw=>hw.pk [0]) 4 8 13 31 rfl (.aa cQ rfl ax rfl) trivial ?_
 refine .FS (fun _ hw=>hw.pk [0]) 5 7 13 63 rfl (.move rfl) trivial ?_
 refine .FS (fun _ hw=>hw.pk [0]) 6 6 13 127 rfl (.nilCheck rfl) trivial ?_
 refine .FS (fun _ hw=>hw.pk [0]) 7 5 13 255 rfl (.fieldAddr eE rfl) trivial ?_
 refine .FS (fun _ hw=>hw.pk [0]) 8 4 13 511 rfl (.fieldAddr Bv rfl) trivial ?_
 refine .FS (fun _ hw=>hw.pk [0]) 9 3 13 1023 rfl (.aa lC rfl ax rfl) trivial ?_
 refine .FS (fun _ hw=>hw.pk [0]) 10 2 13 2047 rfl (.build (parts:=[(0,.tmp 10),(3,.tmp 15)]) (cs:=#[.int .i64 (q.L:Int),.int .i64 0,.slice none 0 0,vN]) rfl (by obtain ⟨_,_,_,rfl⟩:=Tx;kernel_rfl)) trivial ?_
 refine .O 11 1 13 4095 rfl ?_
 refine .alloc lR rfl rfl trivial rfl (fun ga=>?_)
 refine .nil ?_
 try (conv=>enter [2,2];simp only [cE])
 refine ay.bo (fun _ hw=>hw.pk [0]) ?_
 refine .O 12 0 13 8191 rfl ?_
 refine .ah 7 (us:=[.int .i64 (q.L:Int),.int .i64 0,.slice none 0 0,vN]) (cs':=[.int .i64 (q.L:Int),.int .i64 0,.slice none 0 0,vN]) rfl jW rfl rfl rfl rfl aJ (aT rfl) rfl trivial ?_
 refine .nil ?_
 try (conv=>enter [2,2];simp only [cE])
 refine ay.ir 13 cx rfl cx ?_
 refine .nil ?_
 refine .fu ?_
 refine .ab (bg _ ?_)
 refine .seq fun _ bW=>?_
 refine .sr fun _ cr=>?_
 refine .mv rfl (.v (.nilCheck rfl) (.v (.fieldAddr eE rfl) (.v (.fieldAddr kH rfl) (.v (.aa du rfl ax rfl) (.v (.aZ aR rfl a8) (.mv rfl (.nt cr (.block ?_))))))))
 refine .bE (X:=Nat × Value) [(2,_),(3,_),(21,_),(22,_)] (fun x=>[(23,.int .i64 (x.1:Int))]) (fun x=>[box rb 137 5 [.int .i64 (q.L:Int),vE,vN,.int .i64 (q.dn:Int),.map (some mb)],row vE 24 3 q.ex.length (dc q.ex es),row vN 67 1 q.nx.length rs,bh (dQ (Value.int .i64) 3 rs q.nx),mapA mb (kx sv (Value.int .i64) q.num),aI B l,box eu 32 4 [.int .i64 0,.int .i64 0,.slice none 0 0,.slice none 0 0],box ga 32 4 [.int .i64 (q.L:Int),.int .i64 0,x.2,vN],row x.2 4 1 x.1 (((q.ex.take x.1).map fq).map Value.bool)]) (fun x=>x.1≤q.ex.length∧aB x.2) (fun x=>q.ex.length - x.1) ((0,.slice none 0 0)) aU ?_ ?_ ?_ ?_
 ·exact ⟨Nat.zero_le _,cq⟩
 ·exact aU
 ·exact fun w hw=>by have h:=hw.ghost 4 1;exact h
 ·intro x aV _ cJ
  refine .sr fun _ cU=>?_
  refine .v (.lss rfl rfl) (.nt cU ?_)
  refine .seq fun _ c7=>?_
  refine .aA rfl (fun bx=>?_) (fun bx=>?_)
  ·have sk:=hq.g.s x.1 (by omega)
   have sx:=aV.2
   refine .skip ?_
   refine .ab (c7 _ ?_)
   refine .seq fun _ dm=>?_
   refine .block ?_
   refine .sr fun _ dD=>?_
   refine .v (.iN aR rfl rfl) ?_
   refine .v (.da aM rfl a8 Hr rfl (by omega)) ?_
   refine .alloc cC rfl rfl trivial rfl (fun D4=>?_)
   refine .ah 9 (us:=[.int .i64 (q.ex.getD x.1 default).op,.int .i64 (q.ex.getD x.1 default).lt,es.getD x.1 undef]) (cs':=[.int .i64 (q.ex.getD x.1 default).op,.int .i64 (q.ex.getD x.1 default).lt,es.getD x.1 undef]) rfl cy rfl rfl rfl rfl aJ (aT rfl) rfl trivial ?_
   refine .nt dD ?_
   refine .oM (X:=Value) [(2,_),(3,_),(21,_),(22,_),(23,_)] (fun z=>[]) (fun z=>[box rb 137 5 [.int .i64 (q.L:Int),vE,vN,.int .i64 (q.dn:Int),.map (some mb)],row vE 24 3 q.ex.length (dc q.ex es),row vN 67 1 q.nx.length rs,bh (dQ (Value.int .i64) 3 rs q.nx),mapA mb (kx sv (Value.int .i64) q.num),aI B l,box eu 32 4 [.int .i64 0,.int .i64 0,.slice none 0 0,.slice none 0 0],box ga 32 4 [.int .i64 (q.L:Int),.int .i64 0,z,vN],row z 4 1 (x.1+1) (((q.ex.take (x.1+1)).map fq).map Value.bool),box D4 24 3 [.int .i64 (q.ex.getD x.1 default).op,.int .i64 (q.ex.getD x.1 default).lt,es.getD x.1 undef]]) (fun z=>aB z) aU (fun _ hJ=>?_) (fun z hg=>?_)
   ·try (conv=>enter [2,2];simp only [cE])
    refine .jG _ 7 (fun _ hw=>hw.pk [7,9]) mixed ?_
    refine .FS (fun _ hw=>hw.pk [7,9]) 0 7 8 1 rfl (.fieldAddr dp rfl) trivial ?_
    refine .FS (fun _ hw=>hw.pk [7,9]) 1 6 8 3 rfl (.aa jx rfl ax rfl) trivial ?_
    refine .FS (fun _ hw=>hw.pk [7,9]) 2 5 8 7 rfl (.ak aM rfl ax rfl rfl) trivial ?_
    refine .O 3 4 8 15 rfl ?_
    refine .call Ei rfl (fun w hw=>Eo _ w _ (hw.qh hB 5 rfl (hq.g.d x.1 (by omega)))) trivial rfl ?_
    rintro r o ⟨rfl,rfl⟩
    refine .nil ?_
    try (conv=>enter [2,2];simp only [cE])
    refine ay.bo (fun _ hw=>hw.pk [7,9]) ?_
    refine .O 4 3 8 31 rfl ?_
    refine .lit (xs:=[.tmp 30]) gf Mz rfl rfl rfl (by simp [Value.cells]) (by decide) (by decide) trivial rfl (fun lv=>?_)
    refine .nil ?_
    try (conv=>enter [2,2];simp only [cE])
    refine ay.bo (fun _ hw=>hw.pk [7,9]) ?_
    refine .O 5 2 8 63 rfl ?_
    refine .gA 8 rfl gf Mz rfl (by decide) rfl rfl rfl a8 (aw rfl bY) (by omega) (by omega) trivial rfl (fun v2=>?_)
    refine .shape 8 rfl (fun ku=>?_)
    refine .nil ?_
    try (conv=>enter [2,2];simp only [cE])
    refine ay.bo (fun _ hw=>hw.pk [7,9]) ?_
    refine .FS (fun _ hw=>hw.pk [7,9]) 6 1 8 127 rfl (.fieldAddr dp rfl) trivial ?_
    refine .O 7 0 8 255 rfl ?_
    refine .ah 7 (us:=[v2]) (cs':=[.int .i64 (q.L:Int),.int .i64 0,v2,vN]) rfl M1 rfl rfl (by rw [aB.cells ku]) rfl aJ (aT rfl) rfl trivial ?_
    refine .nil ?_
    try (conv=>enter [2,2];simp only [cE])
    refine ay.ir 8 cx rfl cx ?_
    refine .nil ?_
    refine .fu ?_
    exact hJ _ _ (v2) ku (aU) (fun w hw=>by rw [aO default q.ex x.1 (by omega),List.map_append,List.map_append];have h:=hw.pk [0,1,2,3,4,5,6,7,8,9];exact h)
   ·skip
    refine .ag ?_
    refine .ab (dm _ ?_)
    refine .region ?_
    refine .v (.add rfl rfl (by omega)) ?_
    refine .mv rfl (.nil ?_)
    refine .ab (cJ _ _ ((x.1+1,z)) ⟨by dsimp only;omega,hg⟩ (by dsimp only;omega) (aU) (fun w hw=>hw.pk [0,1,2,3,4,5,6,7,8]))
  ·have sx:=aV.2
   refine .exit (.ai (.ai (.ar ?_)))
   refine .ab (bW _ ?_)
   refine .sr fun _ bJ=>?_
   refine .v (.ak eZ rfl ax rfl rfl) ?_
   refine .ah 6 (us:=[.int .i64 (q.L:Int),.int .i64 0,x.2,vN]) (cs':=[.int .i64 (q.L:Int),.int .i64 0,x.2,vN]) rfl jW rfl rfl rfl rfl aJ (aT rfl) rfl trivial ?_
   refine .nt bJ (.ret ?_)
   refine .cO [.cell 2 32] rfl (.cons (.cell eZ rfl ax rfl rfl) (.nil)) (fun w hw=>⟨_,_,_,?_,rfl,kq.ez (hw.pk [8,2,3])⟩)
   have e1:x.1=q.ex.length:=by omega
   refine ⟨x.2,rfl,aV.2,?_,rfl⟩
   rw [e1,List.take_length]
   simp only [kg,qU,List.length_map]
   rfl
set_option maxHeartbeats 2000000 in
theorem Gv (w:World) (F:Nat→Prop) (B:Bs) (l:List cw) (hB:gI B w F) (hA:(aI B l).holds w F) (e:Ex) (s:Value) (hm:cw.deep s e.kids∈l) (n:Int) (res:bB × Int) (hb:re e n=some res):ck Tryz.prog 11 [.agg #[.int .i64 e.op,.int .i64 e.lt,s],.int .i64 n] w F (fun r A o=>∃ vF vN rs,r = .tuple #[.agg #[.int .i64 res.1.L,.int .i64 res.1.s,vF,vN],.int .i64 res.2]∧rs.length=res.1.nx.length∧aB vF∧aB vN∧A=bh (kg 4 3 67 vF vN rs res.1)∧o=[]):=by
 refine cu Tryz.func11 rfl (aT rfl) hA ?_
 refine .sr fun _ bl=>?_
 refine .cS (E:=24) (cs:=[.int .i64 e.op,.int .i64 e.lt,s]) rfl rfl rfl trivial rfl (fun eu=>?_)
 refine .alloc lR rfl rfl trivial rfl (fun iD=>?_)
 refine .as rfl (.nt bl ?_)
 refine .seq fun _ bg=>?_
 refine .sr fun _ bW=>?_
 refine .v (.ak aM rfl ax rfl rfl) (.mv rfl ?_)
 refine .call Nf rfl (fun w hw=>vG w e s n (hw.qh hB 0 rfl hm)) trivial rfl ?_
 rintro r o ⟨rfl,rfl⟩
 refine .as rfl (.nt bW ?_)
 refine .sr fun _ cr=>?_
 refine .mv rfl (.v (.neq rfl rfl) (.nt cr ?_))
 refine .df rfl (fun bx=>?_) (fun bx=>?_)
 ·have wh:res=(rN,cg e n):=by
   rcases vi hb with ⟨_,h⟩ | ⟨h,_⟩
   ·exact h
   ·exact absurd h bx
  refine .sr fun _ cJ=>?_
  refine .v (.build (parts:=[]) (cs:=#[.int .i64 0,.int .i64 0,.slice none 0 0,.slice none 0 0]) rfl (by kernel_rfl)) ?_
  refine .mv rfl ?_
  refine .ah 2 (us:=[.int .i64 0,.int .i64 0,.slice none 0 0,.slice none 0 0]) (cs':=[.int .i64 0,.int .i64 0,.slice none 0 0,.slice none 0 0]) rfl jW rfl rfl rfl rfl aJ (aT rfl) rfl trivial ?_
  refine .as rfl (.nt cJ (.ret (.ae ?_)))
  refine .ghost 4 1 ?_
  refine .ghost 67 1 ?_
  refine .own' _ (fun w hw=>HW.lW (f:=Value.int .i64) 3 hw) ?_
  refine .own' [bh (kg 4 3 67 aW aW [] rN),box iD 32 4 [.int .i64 0,.int .i64 0,.slice none 0 0,.slice none 0 0]] (fun w hw=>by have h:=HW.fU (l:=[_,_,_]) (own:=[_]) (hw.pk [3,4,5,2]);exact h) ?_
  refine .cO [.cell 4 32,.tmp 5] rfl (.cons (.cell eZ rfl ax rfl rfl) (.cons (.tmp rfl) (.nil))) (fun w hw=>⟨_,_,_,?_,rfl,.of (hw.pk [0])⟩)
  subst wh
  exact ⟨aW,aW,[],rfl,rfl,cq,cq,rfl,rfl⟩
 ·obtain ⟨IP,e1,q2,p,hn1,ha,hlp,Uu⟩:=(vi hb).resolve_left (fun h=>h.1 (by omega))
  have hLb:=xZ IP
  obtain ⟨L,rfl⟩:∃ L:Nat,n=L:=⟨n.toNat,by omega⟩
  rw [Int.toNat_natCast] at ha
  refine .skip ?_
  refine .ab (bg _ ?_)
  refine .sr fun _ cU=>?_
  refine .v (.ak aM rfl ax rfl rfl) ?_
  refine .aY 0 rfl UL rfl (fun w Fs hw hh bI bc=>Kj e w (Fs 0) B l (hB.later bI bc 0) (hh.at_ 0 _ rfl) s hm e1 hn1) trivial rfl ?_
  rintro r A o ⟨sr,l2,rfl,qc,rfl,dX,gG,rfl⟩
  refine .mv rfl ?_
  refine .aY 0 rfl aar rfl (fun w Fs hw hh bI bc=>NX w (Fs 0) B l2 (hB.later bI bc 0) (hh.at_ 0 _ rfl) e1 sr gG qc L (by omega) q2 ha) trivial rfl ?_
  rintro r A o ⟨rb,mb,vE,es,rfl,hq0,rfl,rfl⟩
  refine .as rfl (.nt cU ?_)
  refine .seq fun _ c7=>?_
  refine .block ?_
  refine .bE (X:=Nat × mZ × Value × Value × List Value × List Value × List cw) [(4,_),(7,_)] (fun x=>[]) (fun x=>[bh (qg 137 24 67 3 rb mb x.2.2.1 x.2.2.2.1 x.2.2.2.2.1 x.2.2.2.2.2.1 x.2.1 B x.2.2.2.2.2.2),box eu 24 3 [.int .i64 e.op,.int .i64 e.lt,s],box iD 32 4 [.int .i64 0,.int .i64 0,.slice none 0 0,.slice none 0 0]]) (fun x=>oI x.2.2.1 x.2.2.2.1 x.2.2.2.2.1 x.2.2.2.2.2.1 x.2.1 x.2.2.2.2.2.2∧qt x.1 x.2.1=some p) (fun x=>x.1) ((600,q2,vE,aW,es,[],l2)) aU ?_ ?_ ?_ ?_
  ·exact ⟨hq0,hlp⟩
  ·exact aU
  ·exact fun w hw=>hw
  ·intro x aV _ dm
   refine .seq fun _ dD=>?_
   refine .sr fun _ bJ=>?_
   refine .mv rfl ?_
   refine .call aaq rfl (fun w hw=>R5 w rb mb x.2.2.1 x.2.2.2.1 x.2.2.2.2.1 x.2.1 (Gw hw 0 rfl).1 (Gw hw 0 rfl).2) trivial rfl ?_
   rintro r o ⟨rfl,rfl⟩
   refine .v (.not rfl) (.nt bJ ?_)
   refine .eW rfl (fun cB=>?_) (fun cB=>?_)
   ·have j9:x.2.1.dn ≠ x.2.1.ex.length:=by simpa using cB
    have Hs:x.2.1.dn<x.2.1.ex.length:=by have:=aV.1.dn;omega
    obtain ⟨m,Tq,oB⟩:=xM aV.2
    obtain ⟨_,r2,tj,oB⟩:=oB.resolve_left (fun h=>j9 h.1)
    refine .skip ?_
    refine .ab (dD _ ?_)
    refine .block ?_
    refine .sr fun _ bP=>?_
    refine .mv rfl ?_
    refine .aY 0 rfl aap rfl (fun w Fs hw hh bI bc=>NO w (Fs 0) B x.2.2.2.2.2.2 (hB.later bI bc 0) rb mb x.2.2.1 x.2.2.2.1 x.2.2.2.2.1 x.2.2.2.2.2.1 x.2.1 aV.1 (hh.at_ 0 _ rfl) Hs r2 tj) trivial rfl ?_
    rintro r A o ⟨rfl,rfl,JS⟩
    refine .as rfl (.nt bP ?_)
    refine .sr fun _ ct=>?_
    refine .mv rfl (.v (.neq rfl rfl) (.nt ct ?_))
    refine .df rfl (fun cZ=>?_) (fun cZ=>?_)
    ·have MK:p=r2:=by
      rcases oB with ⟨_,h⟩ | ⟨h,_⟩
      ·exact h
      ·exact absurd h cZ
     subst MK
     have wh:res=(rN,p.2):=by
      rcases Uu with ⟨_,h⟩ | ⟨h,_⟩
      ·exact h
      ·exact absurd h cZ
     refine .sr fun _ cK=>?_
     refine .v (.build (parts:=[]) (cs:=#[.int .i64 0,.int .i64 0,.slice none 0 0,.slice none 0 0]) rfl (by kernel_rfl)) ?_
     refine .mv rfl ?_
     refine .ah 2 (us:=[.int .i64 0,.int .i64 0,.slice none 0 0,.slice none 0 0]) (cs':=[.int .i64 0,.int .i64 0,.slice none 0 0,.slice none 0 0]) rfl jW rfl rfl rfl rfl aJ (aT rfl) rfl trivial ?_
     refine .as rfl (.nt cK (.ret (.al (.ae (.al (.ae ?_))))))
     refine .ghost 4 1 ?_
     refine .ghost 67 1 ?_
     refine .own' _ (fun w hw=>HW.lW (f:=Value.int .i64) 3 hw) ?_
     refine .own' [bh (kg 4 3 67 aW aW [] rN),box iD 32 4 [.int .i64 0,.int .i64 0,.slice none 0 0,.slice none 0 0]] (fun w hw=>by have h:=HW.fU (l:=[_,_,_]) (own:=[_]) (hw.pk [3,4,5,2]);exact h) ?_
     refine .cO [.cell 4 32,.tmp 5] rfl (.cons (.cell eZ rfl ax rfl rfl) (.cons (.tmp rfl) (.nil))) (fun w hw=>⟨_,_,_,?_,rfl,.of (hw.pk [0])⟩)
     subst wh
     exact ⟨aW,aW,[],rfl,rfl,cq,cq,rfl,rfl⟩
    ·have hz:r2.2=0:=by omega
     have Y4:qt m r2.1=some p:=by
      rcases oB with ⟨h,_⟩ | ⟨_,h⟩
      ·exact absurd hz h
      ·exact h
     obtain ⟨Wj,BN,Hu,IM,l3,hq3,rfl⟩:=JS hz
     refine .skip (.ag ?_)
     refine .ab (dm _ _ ((m,r2.1,Wj,BN,Hu,IM,l3)) ⟨hq3,Y4⟩ (by dsimp only;omega) (aU) (fun w hw=>hw.pk [0,1,2]))
   ·have heq:x.2.1.dn=x.2.1.ex.length:=by simpa using cB
    obtain ⟨m,Tq,oB⟩:=xM aV.2
    have hpe:p=(x.2.1,0):=by
     rcases oB with ⟨_,h⟩ | ⟨h,_⟩
     ·exact h
     ·exact absurd heq h
    subst hpe
    have Tx:=aV.1.sN
    refine .exit (.ai (.ai (.ar ?_)))
    refine .ab (c7 _ ?_)
    refine .sr fun _ cW=>?_
    refine .mv rfl ?_
    refine .aY 0 rfl aao rfl (fun w Fs hw hh bI bc=>R7 w (Fs 0) B x.2.2.2.2.2.2 (hB.later bI bc 0) rb mb x.2.2.1 x.2.2.2.1 x.2.2.2.2.1 x.2.2.2.2.2.1 x.2.1 aV.1 (hh.at_ 0 _ rfl)) trivial rfl ?_
    rintro r A o ⟨vF,rfl,W6,rfl,rfl⟩
    refine .ah 2 (us:=[.int .i64 (x.2.1.L:Int),.int .i64 0,vF,x.2.2.2.1]) (cs':=[.int .i64 (x.2.1.L:Int),.int .i64 0,vF,x.2.2.2.1]) rfl jW rfl rfl rfl rfl aJ (aT rfl) rfl trivial ?_
    refine .as rfl (.nt cW (.ret ?_))
    refine .cO [.cell 4 32,.tmp 5] rfl (.cons (.cell eZ rfl ax rfl rfl) (.cons (.tmp rfl) (.nil))) (fun w hw=>⟨_,_,_,?_,rfl,.of (hw.pk [0])⟩)
    have wh:res=(qU x.2.1,0):=by
     rcases Uu with ⟨h,_⟩ | ⟨_,h⟩
     ·exact absurd rfl h
     ·exact h
    subst wh
    exact ⟨vF,x.2.2.2.1,x.2.2.2.2.2.1,rfl,aV.1.rl,W6,Tx,rfl,rfl⟩
end Go.Proofs.YtbibnpdnmmgacaaGreatDoor
