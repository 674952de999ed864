import Derived.Test.YtbibnpdnmmgacaaGreatDoorKZj
import Derived.Test.YtbibnpdnmmgacaaGreatDoorKZg
import Derived.Shelf.Strings.Builder1
import Derived.Shelf.Small.Bits
import Derived.Shelf.Small.Wraps
import Derived.Shelf.Strconv.Itoa0
import Derived.Test.YtbibnpdnmmgacaaGreatDoorProg
import Derived.Test.YtbibnpdnmmgacaaGreatDoorKZc
import Derived.Test.YtbibnpdnmmgacaaGreatDoorKZd
set_option linter.unusedVariables false
set_option linter.unusedSimpArgs false
set_option maxRecDepth 100000
namespace Go.Proofs.YtbibnpdnmmgacaaGreatDoor
open Go.Sx Go.RowKit
theorem Sd (d:Nat):Ql d:=by
 induction d with
 | zero=>intro w F lb e s left hA hle hd h;exact u3 0 (fun d' hd'=>by omega) w F lb e s left hA hle hd h
 | succ d ih=>intro w F lb e s left hA hle hd h;exact u3 (d+1) (fun d' hd'=>by obtain rfl:d'=d:=(by omega);exact ih) w F lb e s left hA hle hd h
theorem K7 (w:World) (e:Ex) (s:Value) (h:dy (bD (fun _=>False) w) s e.kids):aK Tryz.prog 97 [.agg #[.int .i64 e.op,.int .i64 e.lt,s]] w (fun r o=>r = .bool (gz 40 e 400).isSome∧o=[]):=by
 refine aC Tryz.func97 rfl (aT rfl) ?_
 refine .sr fun _ bl=>?_
 refine .cS (E:=24) (cs:=[.int .i64 e.op,.int .i64 e.lt,s]) rfl rfl rfl trivial rfl (fun jV=>?_)
 refine .as rfl (.nt bl ?_)
 refine .sr fun _ bg=>?_
 refine .alloc uL rfl rfl trivial rfl (fun ga=>?_)
 refine .ah 1 (cs':=[.int .i64 ((400:Nat):Int)]) rfl tf rfl rfl rfl rfl aJ (aT rfl) rfl trivial ?_
 refine .nt bg ?_
 refine .sr fun _ bW=>?_
 refine .v (.ak aM rfl ax rfl rfl) ?_
 refine .aY 1 rfl PT rfl (fun w Fs hw hh bI bc=>Sd 40 w (Fs 1) ga e s 400 (hh.at_ 1 _ rfl) (by omega) (by omega) (h.yi bI bc 1)) trivial rfl ?_
 rintro r A o ⟨b,l2,rfl,rfl,_,rfl,hf⟩
 refine .as rfl (.nt bW (.ret ?_))
 refine .aG rfl rfl (fun w hw=>⟨_,_,?_,rfl,.of (hw.pk [])⟩)
 rw [hf]
 refine ⟨congrArg Value.bool ?_,rfl⟩
 cases b <;> rfl
def Yd (n:Int) (e:Ex):Prop:=∀ (w:World) (s:Value) (h:dy (bD (fun _=>False) w) s e.kids),aK Tryz.prog 98 [.agg #[.int .i64 e.op,.int .i64 e.lt,s],.int .i64 n] w (fun r o=>r = .bool (dg n e)∧o=[])
set_option maxHeartbeats 1000000 in
theorem HX (n:Int) (e:Ex) (ih:∀ i,i<e.kids.length→Yd n (e.kids.getD i default)) (w:World) (s:Value) (h:dy (bD (fun _=>False) w) s e.kids):aK Tryz.prog 98 [.agg #[.int .i64 e.op,.int .i64 e.lt,s],.int .i64 n] w (fun r o=>r = .bool (dg n e)∧o=[]):=by
 obtain ⟨ss,hl,hx,hk⟩:=h.inv
 have hr:=hx.rd
 have hm:=hr.le
 refine aC Tryz.func98 rfl (aT rfl) ?_
 refine .sr fun _ bl=>?_
 refine .cS (E:=24) (cs:=[.int .i64 e.op,.int .i64 e.lt,s]) rfl rfl rfl trivial rfl (fun eu=>?_)
 refine .as rfl (.nt bl ?_)
 refine .seq fun _ bg=>?_
 refine .sr fun _ bW=>?_
 refine .v (.fieldAddr cP rfl) (.v (.aa cQ rfl ax rfl) (.v (.eql rfl rfl) (.nt bW ?_)))
 refine .aA rfl (fun bx=>?_) (fun bx=>?_)
 ·refine .sr fun _ cr=>?_
  refine .v (.fieldAddr bM rfl) (.v (.aa du rfl ax rfl) (.v (.aZ aR rfl a8) (.v (.eql rfl rfl) (.mv rfl ?_))))
  refine .bQ (g:=14) rfl (fun kW=>?_) (fun kW=>?_)
  ·have Bh:=kW
   try simp only [bs] at Bh
   refine .val _ (.fieldAddr gr rfl) ⟨_,rfl,gB kW⟩ rfl ?_
   refine .val _ (.aa cQ rfl ax rfl) ⟨_,rfl,gB kW⟩ rfl ?_
   refine .val _ (.geq rfl rfl) ⟨_,rfl,gB kW⟩ rfl ?_
   refine .v (.bw rfl (kW) rfl) (.mv rfl ?_)
   refine .bQ (g:=19) rfl (fun gL=>?_) (fun gL=>?_)
   ·have Bg:=gL
    try simp only [bs] at Bg
    refine .val _ (.fieldAddr gr rfl) ⟨_,rfl,gB gL⟩ rfl ?_
    refine .val _ (.aa cQ rfl ax rfl) ⟨_,rfl,gB gL⟩ rfl ?_
    refine .val _ (.move rfl) ⟨_,rfl,gB gL⟩ rfl ?_
    refine .val _ (.lss rfl rfl) ⟨_,rfl,gB gL⟩ rfl ?_
    refine .v (.bw rfl (gL) rfl) (.as rfl (.nt cr (.ret (.ae ?_))))
    refine .aG rfl rfl (fun w hw=>⟨_,_,?_,rfl,.of (hw.pk [])⟩)
    refine ⟨congrArg Value.bool ?_,rfl⟩
    rw [dZ]
    clear hk hr h hx ih hl hw
    generalize e.kids.length=m at *
    generalize e.kids.all (dg n)=b at *
    (simp_all;done)
   ·have Bg:=gL
    try simp only [bs] at Bg
    refine .pass rfl rfl (gL) rfl ?_
    refine .pass rfl rfl (gL) rfl ?_
    refine .pass rfl rfl (gL) rfl ?_
    refine .pass rfl rfl (gL) rfl ?_
    refine .v (.cH rfl (gL) rfl) (.as rfl (.nt cr (.ret (.ae ?_))))
    refine .aG rfl rfl (fun w hw=>⟨_,_,?_,rfl,.of (hw.pk [])⟩)
    refine ⟨congrArg Value.bool ?_,rfl⟩
    rw [dZ]
    clear hk hr h hx ih hl hw
    generalize e.kids.length=m at *
    generalize e.kids.all (dg n)=b at *
    grind
  ·have Bh:=kW
   try simp only [bs] at Bh
   refine .pass rfl rfl (kW) rfl ?_
   refine .pass rfl rfl (kW) rfl ?_
   refine .pass rfl rfl (kW) rfl ?_
   refine .v (.cH rfl (kW) rfl) (.mv rfl ?_)
   refine .pass rfl rfl rfl rfl ?_
   refine .pass rfl rfl rfl rfl ?_
   refine .pass rfl rfl rfl rfl ?_
   refine .pass rfl rfl rfl rfl ?_
   refine .v (.cH rfl (rfl) rfl) (.as rfl (.nt cr (.ret (.ae ?_))))
   refine .aG rfl rfl (fun w hw=>⟨_,_,?_,rfl,.of (hw.pk [])⟩)
   refine ⟨congrArg Value.bool ?_,rfl⟩
   rw [dZ]
   clear hk hr h hx ih hl hw
   generalize e.kids.length=m at *
   generalize e.kids.all (dg n)=b at *
   (simp_all;done)
 ·refine .skip ?_
  refine .ab (bg _ ?_)
  refine .seq fun _ cJ=>?_
  refine .sr fun _ cU=>?_
  refine .v (.fieldAddr gr rfl) (.v (.aa cQ rfl ax rfl) (.v (.neq rfl rfl) (.nt cU ?_)))
  refine .df rfl (fun cB=>?_) (fun cB=>?_)
  ·refine .sr fun _ c7=>?_
   refine .as rfl (.nt c7 (.ret (.ae ?_)))
   refine .aG rfl rfl (fun w hw=>⟨_,_,?_,rfl,.of (hw.pk [])⟩)
   refine ⟨congrArg Value.bool ?_,rfl⟩
   rw [dZ]
   clear hk hr h hx ih hl hw
   generalize e.kids.length=m at *
   generalize e.kids.all (dg n)=b at *
   (simp_all;done)
  ·refine .skip ?_
   refine .ab (cJ _ ?_)
   refine .seq fun _ dm=>?_
   refine .sr fun _ dD=>?_
   refine .v (.fieldAddr cP rfl) (.v (.aa cQ rfl ax rfl) (.nt dD (.block ?_)))
   refine .seq fun _ bJ=>?_
   refine .sr fun _ bP=>?_
   refine .v (.eql rfl rfl) (.as rfl (.nt bP ?_))
   refine .aA rfl (fun cZ=>?_) (fun cZ=>?_)
   ·refine .skip ?_
    refine .ab (bJ _ ?_)
    refine .cD rfl (decide_eq_true cZ) ?_
    refine .sr fun _ ct=>?_
    refine .v (.fieldAddr bM rfl) (.v (.aa du rfl ax rfl) (.v (.aZ aR rfl a8) (.v (.eql rfl rfl) (.as rfl (.nt ct (.ret (.al (.ae ?_))))))))
    refine .aG rfl rfl (fun w hw=>⟨_,_,?_,rfl,.of (hw.pk [])⟩)
    refine ⟨congrArg Value.bool ?_,rfl⟩
    rw [dZ]
    clear hk hr h hx ih hl hw
    generalize e.kids.length=m at *
    generalize e.kids.all (dg n)=b at *
    grind
   ·refine .region ?_
    refine .v (.eql rfl rfl) (.as rfl (.nt bJ ?_))
    refine .aA rfl (fun iz=>?_) (fun iz=>?_)
    ·refine .sr fun _ cK=>?_
     refine .v (.fieldAddr bM rfl) (.v (.aa du rfl ax rfl) (.v (.aZ aR rfl a8) (.v (.eql rfl rfl) (.as rfl (.nt cK (.ret (.al (.ae ?_))))))))
     refine .aG rfl rfl (fun w hw=>⟨_,_,?_,rfl,.of (hw.pk [])⟩)
     refine ⟨congrArg Value.bool ?_,rfl⟩
     rw [dZ]
     clear hk hr h hx ih hl hw
     generalize e.kids.length=m at *
     generalize e.kids.all (dg n)=b at *
     grind
    ·refine .seq fun _ cW=>?_
     refine .sr fun _ c8=>?_
     refine .v (.eql rfl rfl) (.as rfl (.nt c8 ?_))
     refine .aA rfl (fun gn=>?_) (fun gn=>?_)
     ·refine .skip ?_
      refine .ab (cW _ ?_)
      refine .cD rfl (decide_eq_true gn) ?_
      refine .sr fun _ dw=>?_
      refine .v (.fieldAddr bM rfl) (.v (.aa du rfl ax rfl) (.v (.aZ aR rfl a8) (.v (.lss rfl rfl) (.nt dw ?_))))
      refine .aA rfl (fun tb=>?_) (fun tb=>?_)
      ·refine .sr fun _ dE=>?_
       refine .as rfl (.nt dE (.ret (.al (.ae ?_))))
       refine .aG rfl rfl (fun w hw=>⟨_,_,?_,rfl,.of (hw.pk [])⟩)
       refine ⟨congrArg Value.bool ?_,rfl⟩
       rw [dZ]
       clear hk hr h hx ih hl hw
       generalize e.kids.length=m at *
       generalize e.kids.all (dg n)=b at *
       grind
      ·refine .skip (.ag ?_)
       refine .ab (dm _ ?_)
       refine .seq fun _ dR=>?_
       refine .sr fun _ dO=>?_
       refine .v (.fieldAddr bM rfl) (.v (.aa du rfl ax rfl) (.v (.aZ aR rfl a8) (.mv rfl (.nt dO (.block ?_)))))
       refine .bE (X:=Nat) [(1,_),(53,_),(54,_)] (fun k=>[(55,.int .i64 (k:Int))]) (fun k=>[box eu 24 3 [.int .i64 e.op,.int .i64 e.lt,s]]) (fun k=>k≤e.kids.length∧∀ i,i<k→dg n (e.kids.getD i default)=true) (fun k=>e.kids.length - k) (0) aU ?_ ?_ ?_ ?_
       ·exact ⟨Nat.zero_le _,fun i hi=>(by omega)⟩
       ·exact aU
       ·exact fun w hw=>hw
       ·intro k aV _ eJ
        refine .sr fun _ eY=>?_
        refine .v (.lss rfl rfl) (.nt eY ?_)
        refine .seq fun _ eI=>?_
        refine .aA rfl (fun ni=>?_) (fun ni=>?_)
        ·have sk:=(hk k (by omega)).sl
         refine .skip ?_
         refine .ab (eI _ ?_)
         refine .seq fun _ fH=>?_
         refine .block ?_
         refine .sr fun _ gq=>?_
         refine .v (.iN aR rfl rfl) ?_
         refine .v (.da aM rfl a8 (by assumption) rfl (by omega)) ?_
         refine .alloc cC rfl rfl trivial rfl (fun oy=>?_)
         refine .ah 1 (us:=[.int .i64 (e.kids.getD k default).op,.int .i64 (e.kids.getD k default).lt,ss.getD k undef]) (cs':=[.int .i64 (e.kids.getD k default).op,.int .i64 (e.kids.getD k default).lt,ss.getD k undef]) rfl cy rfl rfl rfl rfl aJ (aT rfl) rfl trivial ?_
         refine .nt gq ?_
         refine .sr fun _ iT=>?_
         refine .v (.ak aM rfl ax rfl rfl) (.mv rfl ?_)
         refine .call HE rfl (fun w hw=>ih k (by omega) w _ ((hk k (by omega)).at hw)) trivial rfl ?_
         rintro r o ⟨rfl,rfl⟩
         refine .v (.not rfl) (.nt iT ?_)
         refine .eW rfl (fun kz=>?_) (fun kz=>?_)
         ·refine .sr fun _ iZ=>?_
          refine .as rfl (.nt iZ (.ret (.al (.ae (.ae (.al (.ae ?_)))))))
          refine .aG rfl rfl (fun w hw=>⟨_,_,?_,rfl,.of (hw.pk [])⟩)
          refine ⟨congrArg Value.bool ?_,rfl⟩
          rw [dZ,all_false (k:=k) (by omega) (by simpa using kz)]
          clear hk hr h hx ih hl hw aV ni kz
          generalize e.kids.length=m at *
          (simp_all;done)
         ·refine .skip (.ag ?_)
          refine .ab (fH _ ?_)
          refine .region ?_
          refine .v (.add rfl rfl (by omega)) ?_
          refine .mv rfl (.nil ?_)
          refine .ab (eJ _ _ (k+1) ⟨by omega,fun i hi=>by rcases Nat.lt_or_ge i k with uK | uK;exact aV.2 i uK;obtain rfl:i=k:=(by omega);simpa using kz⟩ (by omega) (aU) (fun w hw=>hw.pk [0]))
        ·refine .exit (.ai (.ai (.ar ?_)))
         refine .ab (dR _ ?_)
         refine .sr fun _ iS=>?_
         refine .as rfl (.nt iS (.ret ?_))
         refine .aG rfl rfl (fun w hw=>⟨_,_,?_,rfl,.of (hw.pk [])⟩)
         refine ⟨congrArg Value.bool ?_,rfl⟩
         have ha:=all_true (p:=dg n) (ks:=e.kids) (fun i hi=>aV.2 i (by omega))
         rw [dZ,ha]
         clear hk hr h hx ih hl aV hw ni ha
         generalize e.kids.length=m at *
         grind
     ·refine .sr fun _ jy=>?_
      refine .v (.eql rfl rfl) (.as rfl (.nt jy ?_))
      refine .aA rfl (fun qp=>?_) (fun qp=>?_)
      ·refine .skip ?_
       refine .ab (cW _ ?_)
       refine .cD rfl (decide_eq_true qp) ?_
       refine .sr fun _ kf=>?_
       refine .v (.fieldAddr bM rfl) (.v (.aa du rfl ax rfl) (.v (.aZ aR rfl a8) (.v (.lss rfl rfl) (.nt kf ?_))))
       refine .aA rfl (fun tb=>?_) (fun tb=>?_)
       ·refine .sr fun _ kB=>?_
        refine .as rfl (.nt kB (.ret (.al (.ae ?_))))
        refine .aG rfl rfl (fun w hw=>⟨_,_,?_,rfl,.of (hw.pk [])⟩)
        refine ⟨congrArg Value.bool ?_,rfl⟩
        rw [dZ]
        clear hk hr h hx ih hl hw
        generalize e.kids.length=m at *
        generalize e.kids.all (dg n)=b at *
        grind
       ·refine .skip (.ag ?_)
        refine .ab (dm _ ?_)
        refine .seq fun _ ke=>?_
        refine .sr fun _ nj=>?_
        refine .v (.fieldAddr bM rfl) (.v (.aa du rfl ax rfl) (.v (.aZ aR rfl a8) (.mv rfl (.nt nj (.block ?_)))))
        refine .bE (X:=Nat) [(1,_),(53,_),(54,_)] (fun k=>[(55,.int .i64 (k:Int))]) (fun k=>[box eu 24 3 [.int .i64 e.op,.int .i64 e.lt,s]]) (fun k=>k≤e.kids.length∧∀ i,i<k→dg n (e.kids.getD i default)=true) (fun k=>e.kids.length - k) (0) aU ?_ ?_ ?_ ?_
        ·exact ⟨Nat.zero_le _,fun i hi=>(by omega)⟩
        ·exact aU
        ·exact fun w hw=>hw
        ·intro k aV _ lE
         refine .sr fun _ oG=>?_
         refine .v (.lss rfl rfl) (.nt oG ?_)
         refine .seq fun _ wg=>?_
         refine .aA rfl (fun ni=>?_) (fun ni=>?_)
         ·have sk:=(hk k (by omega)).sl
          refine .skip ?_
          refine .ab (wg _ ?_)
          refine .seq fun _ Ab=>?_
          refine .block ?_
          refine .sr fun _ Eg=>?_
          refine .v (.iN aR rfl rfl) ?_
          refine .v (.da aM rfl a8 (by assumption) rfl (by omega)) ?_
          refine .alloc cC rfl rfl trivial rfl (fun oy=>?_)
          refine .ah 1 (us:=[.int .i64 (e.kids.getD k default).op,.int .i64 (e.kids.getD k default).lt,ss.getD k undef]) (cs':=[.int .i64 (e.kids.getD k default).op,.int .i64 (e.kids.getD k default).lt,ss.getD k undef]) rfl cy rfl rfl rfl rfl aJ (aT rfl) rfl trivial ?_
          refine .nt Eg ?_
          refine .sr fun _ Ef=>?_
          refine .v (.ak aM rfl ax rfl rfl) (.mv rfl ?_)
          refine .call HE rfl (fun w hw=>ih k (by omega) w _ ((hk k (by omega)).at hw)) trivial rfl ?_
          rintro r o ⟨rfl,rfl⟩
          refine .v (.not rfl) (.nt Ef ?_)
          refine .eW rfl (fun kz=>?_) (fun kz=>?_)
          ·refine .sr fun _ Jz=>?_
           refine .as rfl (.nt Jz (.ret (.al (.ae (.ae (.al (.ae ?_)))))))
           refine .aG rfl rfl (fun w hw=>⟨_,_,?_,rfl,.of (hw.pk [])⟩)
           refine ⟨congrArg Value.bool ?_,rfl⟩
           rw [dZ,all_false (k:=k) (by omega) (by simpa using kz)]
           clear hk hr h hx ih hl hw aV ni kz
           generalize e.kids.length=m at *
           (simp_all;done)
          ·refine .skip (.ag ?_)
           refine .ab (Ab _ ?_)
           refine .region ?_
           refine .v (.add rfl rfl (by omega)) ?_
           refine .mv rfl (.nil ?_)
           refine .ab (lE _ _ (k+1) ⟨by omega,fun i hi=>by rcases Nat.lt_or_ge i k with uK | uK;exact aV.2 i uK;obtain rfl:i=k:=(by omega);simpa using kz⟩ (by omega) (aU) (fun w hw=>hw.pk [0]))
         ·refine .exit (.ai (.ai (.ar ?_)))
          refine .ab (ke _ ?_)
          refine .sr fun _ Jy=>?_
          refine .as rfl (.nt Jy (.ret ?_))
          refine .aG rfl rfl (fun w hw=>⟨_,_,?_,rfl,.of (hw.pk [])⟩)
          refine ⟨congrArg Value.bool ?_,rfl⟩
          have ha:=all_true (p:=dg n) (ks:=e.kids) (fun i hi=>aV.2 i (by omega))
          rw [dZ,ha]
          clear hk hr h hx ih hl aV hw ni ha
          generalize e.kids.length=m at *
          grind
      ·refine .region ?_
       refine .v (.eql rfl rfl) (.as rfl (.nt cW ?_))
       refine .aA rfl (fun ka=>?_) (fun ka=>?_)
       ·refine .sr fun _ Jx=>?_
        refine .v (.fieldAddr bM rfl) (.v (.aa du rfl ax rfl) (.v (.aZ aR rfl a8) (.v (.lss rfl rfl) (.nt Jx ?_))))
        refine .aA rfl (fun tb=>?_) (fun tb=>?_)
        ·refine .sr fun _ Jw=>?_
         refine .as rfl (.nt Jw (.ret (.al (.ae ?_))))
         refine .aG rfl rfl (fun w hw=>⟨_,_,?_,rfl,.of (hw.pk [])⟩)
         refine ⟨congrArg Value.bool ?_,rfl⟩
         rw [dZ]
         clear hk hr h hx ih hl hw
         generalize e.kids.length=m at *
         generalize e.kids.all (dg n)=b at *
         grind
        ·refine .skip (.ag ?_)
         refine .ab (dm _ ?_)
         refine .seq fun _ ZU=>?_
         refine .sr fun _ ZT=>?_
         refine .v (.fieldAddr bM rfl) (.v (.aa du rfl ax rfl) (.v (.aZ aR rfl a8) (.mv rfl (.nt ZT (.block ?_)))))
         refine .bE (X:=Nat) [(1,_),(53,_),(54,_)] (fun k=>[(55,.int .i64 (k:Int))]) (fun k=>[box eu 24 3 [.int .i64 e.op,.int .i64 e.lt,s]]) (fun k=>k≤e.kids.length∧∀ i,i<k→dg n (e.kids.getD i default)=true) (fun k=>e.kids.length - k) (0) aU ?_ ?_ ?_ ?_
         ·exact ⟨Nat.zero_le _,fun i hi=>(by omega)⟩
         ·exact aU
         ·exact fun w hw=>hw
         ·intro k aV _ ZS
          refine .sr fun _ ZR=>?_
          refine .v (.lss rfl rfl) (.nt ZR ?_)
          refine .seq fun _ ZQ=>?_
          refine .aA rfl (fun ni=>?_) (fun ni=>?_)
          ·have sk:=(hk k (by omega)).sl
           refine .skip ?_
           refine .ab (ZQ _ ?_)
           refine .seq fun _ ZP=>?_
           refine .block ?_
           refine .sr fun _ ZO=>?_
           refine .v (.iN aR rfl rfl) ?_
           refine .v (.da aM rfl a8 (by assumption) rfl (by omega)) ?_
           refine .alloc cC rfl rfl trivial rfl (fun oy=>?_)
           refine .ah 1 (us:=[.int .i64 (e.kids.getD k default).op,.int .i64 (e.kids.getD k default).lt,ss.getD k undef]) (cs':=[.int .i64 (e.kids.getD k default).op,.int .i64 (e.kids.getD k default).lt,ss.getD k undef]) rfl cy rfl rfl rfl rfl aJ (aT rfl) rfl trivial ?_
           refine .nt ZO ?_
           refine .sr fun _ ZN=>?_
           refine .v (.ak aM rfl ax rfl rfl) (.mv rfl ?_)
           refine .call HE rfl (fun w hw=>ih k (by omega) w _ ((hk k (by omega)).at hw)) trivial rfl ?_
           rintro r o ⟨rfl,rfl⟩
           refine .v (.not rfl) (.nt ZN ?_)
           refine .eW rfl (fun kz=>?_) (fun kz=>?_)
           ·refine .sr fun _ ZM=>?_
            refine .as rfl (.nt ZM (.ret (.al (.ae (.ae (.al (.ae ?_)))))))
            refine .aG rfl rfl (fun w hw=>⟨_,_,?_,rfl,.of (hw.pk [])⟩)
            refine ⟨congrArg Value.bool ?_,rfl⟩
            rw [dZ,all_false (k:=k) (by omega) (by simpa using kz)]
            clear hk hr h hx ih hl hw aV ni kz
            generalize e.kids.length=m at *
            (simp_all;done)
           ·refine .skip (.ag ?_)
            refine .ab (ZP _ ?_)
            refine .region ?_
            refine .v (.add rfl rfl (by omega)) ?_
            refine .mv rfl (.nil ?_)
            refine .ab (ZS _ _ (k+1) ⟨by omega,fun i hi=>by rcases Nat.lt_or_ge i k with uK | uK;exact aV.2 i uK;obtain rfl:i=k:=(by omega);simpa using kz⟩ (by omega) (aU) (fun w hw=>hw.pk [0]))
          ·refine .exit (.ai (.ai (.ar ?_)))
           refine .ab (ZU _ ?_)
           refine .sr fun _ ZL=>?_
           refine .as rfl (.nt ZL (.ret ?_))
           refine .aG rfl rfl (fun w hw=>⟨_,_,?_,rfl,.of (hw.pk [])⟩)
           refine ⟨congrArg Value.bool ?_,rfl⟩
           have ha:=all_true (p:=dg n) (ks:=e.kids) (fun i hi=>aV.2 i (by omega))
           rw [dZ,ha]
           clear hk hr h hx ih hl aV hw ni ha
           generalize e.kids.length=m at *
           grind
       ·refine .seq fun _ Uw=>?_
        refine .sr fun _ ZK=>?_
        refine .v (.eql rfl rfl) (.as rfl (.nt ZK ?_))
        refine .aA rfl (fun FB=>?_) (fun FB=>?_)
        ·refine .skip ?_
         refine .ab (Uw _ ?_)
         refine .cD rfl (decide_eq_true FB) ?_
         refine .sr fun _ ZJ=>?_
         refine .v (.fieldAddr bM rfl) (.v (.aa du rfl ax rfl) (.v (.aZ aR rfl a8) (.v (.neq rfl rfl) (.nt ZJ ?_))))
         refine .df rfl (fun Rl=>?_) (fun Rl=>?_)
         ·refine .sr fun _ ZI=>?_
          refine .as rfl (.nt ZI (.ret (.al (.ae ?_))))
          refine .aG rfl rfl (fun w hw=>⟨_,_,?_,rfl,.of (hw.pk [])⟩)
          refine ⟨congrArg Value.bool ?_,rfl⟩
          rw [dZ]
          clear hk hr h hx ih hl hw
          generalize e.kids.length=m at *
          generalize e.kids.all (dg n)=b at *
          grind
         ·refine .skip (.ag ?_)
          refine .ab (dm _ ?_)
          refine .seq fun _ ZH=>?_
          refine .sr fun _ ZG=>?_
          refine .v (.fieldAddr bM rfl) (.v (.aa du rfl ax rfl) (.v (.aZ aR rfl a8) (.mv rfl (.nt ZG (.block ?_)))))
          refine .bE (X:=Nat) [(1,_),(53,_),(54,_)] (fun k=>[(55,.int .i64 (k:Int))]) (fun k=>[box eu 24 3 [.int .i64 e.op,.int .i64 e.lt,s]]) (fun k=>k≤e.kids.length∧∀ i,i<k→dg n (e.kids.getD i default)=true) (fun k=>e.kids.length - k) (0) aU ?_ ?_ ?_ ?_
          ·exact ⟨Nat.zero_le _,fun i hi=>(by omega)⟩
          ·exact aU
          ·exact fun w hw=>hw
          ·intro k aV _ ZF
           refine .sr fun _ ZE=>?_
           refine .v (.lss rfl rfl) (.nt ZE ?_)
           refine .seq fun _ ZD=>?_
           refine .aA rfl (fun ni=>?_) (fun ni=>?_)
           ·have sk:=(hk k (by omega)).sl
            refine .skip ?_
            refine .ab (ZD _ ?_)
            refine .seq fun _ ZC=>?_
            refine .block ?_
            refine .sr fun _ ZB=>?_
            refine .v (.iN aR rfl rfl) ?_
            refine .v (.da aM rfl a8 (by assumption) rfl (by omega)) ?_
            refine .alloc cC rfl rfl trivial rfl (fun oy=>?_)
            refine .ah 1 (us:=[.int .i64 (e.kids.getD k default).op,.int .i64 (e.kids.getD k default).lt,ss.getD k undef]) (cs':=[.int .i64 (e.kids.getD k default).op,.int .i64 (e.kids.getD k default).lt,ss.getD k undef]) rfl cy rfl rfl rfl rfl aJ (aT rfl) rfl trivial ?_
            refine .nt ZB ?_
            refine .sr fun _ ZA=>?_
            refine .v (.ak aM rfl ax rfl rfl) (.mv rfl ?_)
            refine .call HE rfl (fun w hw=>ih k (by omega) w _ ((hk k (by omega)).at hw)) trivial rfl ?_
            rintro r o ⟨rfl,rfl⟩
            refine .v (.not rfl) (.nt ZA ?_)
            refine .eW rfl (fun kz=>?_) (fun kz=>?_)
            ·refine .sr fun _ Zz=>?_
             refine .as rfl (.nt Zz (.ret (.al (.ae (.ae (.al (.ae ?_)))))))
             refine .aG rfl rfl (fun w hw=>⟨_,_,?_,rfl,.of (hw.pk [])⟩)
             refine ⟨congrArg Value.bool ?_,rfl⟩
             rw [dZ,all_false (k:=k) (by omega) (by simpa using kz)]
             clear hk hr h hx ih hl hw aV ni kz
             generalize e.kids.length=m at *
             (simp_all;done)
            ·refine .skip (.ag ?_)
             refine .ab (ZC _ ?_)
             refine .region ?_
             refine .v (.add rfl rfl (by omega)) ?_
             refine .mv rfl (.nil ?_)
             refine .ab (ZF _ _ (k+1) ⟨by omega,fun i hi=>by rcases Nat.lt_or_ge i k with uK | uK;exact aV.2 i uK;obtain rfl:i=k:=(by omega);simpa using kz⟩ (by omega) (aU) (fun w hw=>hw.pk [0]))
           ·refine .exit (.ai (.ai (.ar ?_)))
            refine .ab (ZH _ ?_)
            refine .sr fun _ Zy=>?_
            refine .as rfl (.nt Zy (.ret ?_))
            refine .aG rfl rfl (fun w hw=>⟨_,_,?_,rfl,.of (hw.pk [])⟩)
            refine ⟨congrArg Value.bool ?_,rfl⟩
            have ha:=all_true (p:=dg n) (ks:=e.kids) (fun i hi=>aV.2 i (by omega))
            rw [dZ,ha]
            clear hk hr h hx ih hl aV hw ni ha
            generalize e.kids.length=m at *
            grind
        ·refine .region ?_
         refine .v (.eql rfl rfl) (.as rfl (.nt Uw ?_))
         refine .aA rfl (fun hc9=>?_) (fun hc9=>?_)
         ·refine .sr fun _ Zx=>?_
          refine .v (.fieldAddr bM rfl) (.v (.aa du rfl ax rfl) (.v (.aZ aR rfl a8) (.v (.neq rfl rfl) (.nt Zx ?_))))
          refine .df rfl (fun Rl=>?_) (fun Rl=>?_)
          ·refine .sr fun _ Zw=>?_
           refine .as rfl (.nt Zw (.ret (.al (.ae ?_))))
           refine .aG rfl rfl (fun w hw=>⟨_,_,?_,rfl,.of (hw.pk [])⟩)
           refine ⟨congrArg Value.bool ?_,rfl⟩
           rw [dZ]
           clear hk hr h hx ih hl hw
           generalize e.kids.length=m at *
           generalize e.kids.all (dg n)=b at *
           grind
          ·refine .skip (.ag ?_)
           refine .ab (dm _ ?_)
           refine .seq fun _ Zv=>?_
           refine .sr fun _ Zu=>?_
           refine .v (.fieldAddr bM rfl) (.v (.aa du rfl ax rfl) (.v (.aZ aR rfl a8) (.mv rfl (.nt Zu (.block ?_)))))
           refine .bE (X:=Nat) [(1,_),(53,_),(54,_)] (fun k=>[(55,.int .i64 (k:Int))]) (fun k=>[box eu 24 3 [.int .i64 e.op,.int .i64 e.lt,s]]) (fun k=>k≤e.kids.length∧∀ i,i<k→dg n (e.kids.getD i default)=true) (fun k=>e.kids.length - k) (0) aU ?_ ?_ ?_ ?_
           ·exact ⟨Nat.zero_le _,fun i hi=>(by omega)⟩
           ·exact aU
           ·exact fun w hw=>hw
           ·intro k aV _ Zt
            refine .sr fun _ Zs=>?_
            refine .v (.lss rfl rfl) (.nt Zs ?_)
            refine .seq fun _ Zq=>?_
            refine .aA rfl (fun ni=>?_) (fun ni=>?_)
            ·have sk:=(hk k (by omega)).sl
             refine .skip ?_
             refine .ab (Zq _ ?_)
             refine .seq fun _ Zp=>?_
             refine .block ?_
             refine .sr fun _ Zo=>?_
             refine .v (.iN aR rfl rfl) ?_
             refine .v (.da aM rfl a8 (by assumption) rfl (by omega)) ?_
             refine .alloc cC rfl rfl trivial rfl (fun oy=>?_)
             refine .ah 1 (us:=[.int .i64 (e.kids.getD k default).op,.int .i64 (e.kids.getD k default).lt,ss.getD k undef]) (cs':=[.int .i64 (e.kids.getD k default).op,.int .i64 (e.kids.getD k default).lt,ss.getD k undef]) rfl cy rfl rfl rfl rfl aJ (aT rfl) rfl trivial ?_
             refine .nt Zo ?_
             refine .sr fun _ Zn=>?_
             refine .v (.ak aM rfl ax rfl rfl) (.mv rfl ?_)
             refine .call HE rfl (fun w hw=>ih k (by omega) w _ ((hk k (by omega)).at hw)) trivial rfl ?_
             rintro r o ⟨rfl,rfl⟩
             refine .v (.not rfl) (.nt Zn ?_)
             refine .eW rfl (fun kz=>?_) (fun kz=>?_)
             ·refine .sr fun _ Zm=>?_
              refine .as rfl (.nt Zm (.ret (.al (.ae (.ae (.al (.ae ?_)))))))
              refine .aG rfl rfl (fun w hw=>⟨_,_,?_,rfl,.of (hw.pk [])⟩)
              refine ⟨congrArg Value.bool ?_,rfl⟩
              rw [dZ,all_false (k:=k) (by omega) (by simpa using kz)]
              clear hk hr h hx ih hl hw aV ni kz
              generalize e.kids.length=m at *
              (simp_all;done)
             ·refine .skip (.ag ?_)
              refine .ab (Zp _ ?_)
              refine .region ?_
              refine .v (.add rfl rfl (by omega)) ?_
              refine .mv rfl (.nil ?_)
              refine .ab (Zt _ _ (k+1) ⟨by omega,fun i hi=>by rcases Nat.lt_or_ge i k with uK | uK;exact aV.2 i uK;obtain rfl:i=k:=(by omega);simpa using kz⟩ (by omega) (aU) (fun w hw=>hw.pk [0]))
            ·refine .exit (.ai (.ai (.ar ?_)))
             refine .ab (Zv _ ?_)
             refine .sr fun _ Zl=>?_
             refine .as rfl (.nt Zl (.ret ?_))
             refine .aG rfl rfl (fun w hw=>⟨_,_,?_,rfl,.of (hw.pk [])⟩)
             refine ⟨congrArg Value.bool ?_,rfl⟩
             have ha:=all_true (p:=dg n) (ks:=e.kids) (fun i hi=>aV.2 i (by omega))
             rw [dZ,ha]
             clear hk hr h hx ih hl aV hw ni ha
             generalize e.kids.length=m at *
             grind
         ·refine .sr fun _ Zk=>?_
          refine .as rfl (.nt Zk (.ret (.al (.ae ?_))))
          refine .aG rfl rfl (fun w hw=>⟨_,_,?_,rfl,.of (hw.pk [])⟩)
          refine ⟨congrArg Value.bool ?_,rfl⟩
          rw [dZ]
          clear hk hr h hx ih hl hw
          generalize e.kids.length=m at *
          generalize e.kids.all (dg n)=b at *
          (simp_all;done)
theorem Yz (n:Int) (e:Ex):Yd n e:=Ex.ind (P:=Yd n) (fun e ih w s h=>HX n e ih w s h) e
theorem vG (w:World) (e:Ex) (s:Value) (n:Int) (h:dy (bD (fun _=>False) w) s e.kids):aK Tryz.prog 43 [.agg #[.int .i64 e.op,.int .i64 e.lt,s],.int .i64 n] w (fun r o=>r = .int .i64 (cg e n)∧o=[]):=by
 refine aC Tryz.func43 rfl (aT rfl) ?_
 refine .sr fun _ bl=>?_
 refine .cS (E:=24) (cs:=[.int .i64 e.op,.int .i64 e.lt,s]) rfl rfl rfl trivial rfl (fun eu=>?_)
 refine .as rfl (.nt bl ?_)
 refine .seq fun _ bg=>?_
 refine .sr fun _ bW=>?_
 refine .mv rfl (.v (.lss rfl rfl) (.mv rfl ?_))
 refine .bQ (g:=7) rfl (fun bt=>?_) (fun bt=>?_)
 ·have dC:=bt
  try simp only [bs] at dC
  refine .pass rfl rfl (bt) rfl ?_
  refine .pass rfl rfl (bt) rfl ?_
  refine .v (.bw rfl (bt) rfl) (.nt bW ?_)
  refine .cD rfl (rfl) ?_
  refine .sr fun _ cr=>?_
  refine .as rfl (.nt cr (.ret (.ae ?_)))
  refine .aG rfl rfl (fun w hw=>⟨_,_,?_,rfl,.of (hw.pk [])⟩)
  refine ⟨congrArg (Value.int .i64) ?_,rfl⟩
  unfold cg
  clear h
  (simp_all;done)
 ·have dC:=bt
  try simp only [bs] at dC
  refine .val _ (.move rfl) ⟨_,rfl,gB bt⟩ rfl ?_
  refine .val _ (.gtr rfl rfl) ⟨_,rfl,gB bt⟩ rfl ?_
  refine .v (.cH rfl (bt) rfl) (.nt bW ?_)
  refine .aA rfl (fun bx=>?_) (fun bx=>?_)
  ·refine .sr fun _ cJ=>?_
   refine .as rfl (.nt cJ (.ret (.ae ?_)))
   refine .aG rfl rfl (fun w hw=>⟨_,_,?_,rfl,.of (hw.pk [])⟩)
   refine ⟨congrArg (Value.int .i64) ?_,rfl⟩
   unfold cg
   clear h
   (simp_all;done)
  ·refine .skip ?_
   refine .ab (bg _ ?_)
   refine .seq fun _ cU=>?_
   refine .sr fun _ c7=>?_
   refine .v (.ak aM rfl ax rfl rfl) ?_
   refine .call Z8 rfl (fun w hw=>K7 w e s (h.at hw)) trivial rfl ?_
   rintro r o ⟨rfl,rfl⟩
   refine .v (.not rfl) (.nt c7 ?_)
   refine .eW rfl (fun cB=>?_) (fun cB=>?_)
   ·refine .sr fun _ dm=>?_
    refine .as rfl (.nt dm (.ret (.ae ?_)))
    refine .aG rfl rfl (fun w hw=>⟨_,_,?_,rfl,.of (hw.pk [])⟩)
    refine ⟨congrArg (Value.int .i64) ?_,rfl⟩
    unfold cg
    clear h
    (simp_all;done)
   ·refine .skip ?_
    refine .ab (cU _ ?_)
    refine .seq fun _ dD=>?_
    refine .sr fun _ bJ=>?_
    refine .v (.ak aM rfl ax rfl rfl) (.mv rfl ?_)
    refine .call HE rfl (fun w hw=>Yz n e w s (h.at hw)) trivial rfl ?_
    rintro r o ⟨rfl,rfl⟩
    refine .v (.not rfl) (.nt bJ ?_)
    refine .eW rfl (fun cZ=>?_) (fun cZ=>?_)
    ·refine .sr fun _ bP=>?_
     refine .as rfl (.nt bP (.ret (.ae ?_)))
     refine .aG rfl rfl (fun w hw=>⟨_,_,?_,rfl,.of (hw.pk [])⟩)
     refine ⟨congrArg (Value.int .i64) ?_,rfl⟩
     unfold cg
     clear h
     (simp_all;done)
    ·refine .skip ?_
     refine .ab (dD _ ?_)
     refine .sr fun _ ct=>?_
     refine .as rfl (.nt ct (.ret ?_))
     refine .aG rfl rfl (fun w hw=>⟨_,_,?_,rfl,.of (hw.pk [])⟩)
     refine ⟨congrArg (Value.int .i64) ?_,rfl⟩
     unfold cg
     clear h
     (simp_all;done)
theorem El (w:World) (e:Ex) (s:Value) (h:dy (bD (fun _=>False) w) s e.kids):aK Tryz.prog 37 [.agg #[.int .i64 e.op,.int .i64 e.lt,s]] w (fun r o=>r = .bool (decide (cg e 6=0))∧o=[]):=by
 refine aC Tryz.func37 rfl (aT rfl) ?_
 refine .sr fun _ bl=>?_
 refine .cS (E:=24) (cs:=[.int .i64 e.op,.int .i64 e.lt,s]) rfl rfl rfl trivial rfl (fun jV=>?_)
 refine .as rfl (.nt bl ?_)
 refine .sr fun _ bg=>?_
 refine .v (.ak aM rfl ax rfl rfl) ?_
 refine .call Nf rfl (fun w hw=>vG w e s 6 (h.at hw)) trivial rfl ?_
 rintro r o ⟨rfl,rfl⟩
 refine .v (.eql rfl rfl) (.as rfl (.nt bg (.ret ?_)))
 refine .aG rfl rfl (fun w hw=>⟨_,_,?_,rfl,.of (hw.pk [])⟩)
 exact ⟨rfl,rfl⟩
theorem Gt (w:World) (f:FuncId) (zT:aj Tryz.prog f) (p:Ex→Bool) (s:Value) (ks:List Ex) (ss:List Value) (hl:ss.length=ks.length) (mW:∀ i,i<ks.length→aB (ss.getD i undef)) (hr:Rd (fun b=>¬ (fun _=>False) b) w s 3 ks.length (dc ks ss)) (hf:∀ w',bj (fun _=>False) w w'→∀ i,i<ks.length→aK Tryz.prog f [.agg #[.int .i64 (ks.getD i default).op,.int .i64 (ks.getD i default).lt,ss.getD i undef]] w' (fun r o=>r = .bool (p (ks.getD i default))∧o=[])):aK Tryz.prog 78 [s,.func (.func f) #[] #[]] w (fun r o=>r = .int .i64 (qj p ks)∧o=[]):=by
 have hm:=hr.le
 refine aC Tryz.func78 rfl (aT rfl) ?_
 refine .sr fun _ bl=>?_
 refine .as rfl (.nt bl ?_)
 refine .seq fun _ bg=>?_
 refine .sr fun _ bW=>?_
 refine .mv rfl (.v (.aZ aR rfl a8) (.mv rfl (.nt bW (.block ?_))))
 refine .bE (X:=Nat) [(0,_),(1,_),(7,_)] (fun k=>[(8,.int .i64 (k:Int))]) (fun k=>[]) (fun k=>k≤ks.length∧∀ i,i<k→p (ks.getD i default)=false) (fun k=>ks.length - k) (0) aU ?_ ?_ ?_ ?_
 ·exact ⟨Nat.zero_le _,fun i hi=>(by omega)⟩
 ·exact aU
 ·exact fun w hw=>hw
 ·intro k aV _ cr
  refine .sr fun _ cJ=>?_
  refine .v (.lss rfl rfl) (.nt cJ ?_)
  refine .seq fun _ cU=>?_
  refine .aA rfl (fun bx=>?_) (fun bx=>?_)
  ·refine .skip ?_
   refine .ab (cU _ ?_)
   refine .seq fun _ c7=>?_
   refine .block ?_
   refine .sr fun _ dm=>?_
   refine .mv rfl (.as rfl (.nt dm ?_))
   refine .sr fun _ dD=>?_
   refine .mv rfl (.mv rfl (.mv rfl (.v (.iN aR rfl rfl) ?_)))
   refine .v (.da aM rfl a8 (by assumption) rfl (by omega)) ?_
   refine .oQ (us:=[]) (cs:=[]) zT rfl rfl (fun w hw=>hf w hw.frame k (by omega)) trivial rfl ?_
   rintro r o ⟨rfl,rfl⟩
   refine .nt dD ?_
   refine .cond rfl (fun cB=>?_) (fun cB=>?_)
   ·try simp only [bs] at cB
    refine .sr fun _ bJ=>?_
    refine .mv rfl (.as rfl (.nt bJ (.ret (.al (.ae (.ae (.al (.ae ?_))))))))
    refine .aG rfl rfl (fun w hw=>⟨_,_,?_,rfl,.of (hw.pk [])⟩)
    refine ⟨congrArg (Value.int .i64) ?_,rfl⟩
    exact (zt (by omega) aV.2 (by simpa using cB)).symm
   ·try simp only [bs] at cB
    refine .skip (.ag ?_)
    refine .ab (c7 _ ?_)
    refine .region ?_
    refine .v (.add rfl rfl (by omega)) ?_
    refine .mv rfl (.nil ?_)
    refine .ab (cr _ _ (k+1) ⟨by omega,fun i hi=>by rcases Nat.lt_or_ge i k with uK | uK;exact aV.2 i uK;obtain rfl:i=k:=(by omega);simpa using cB⟩ (by omega) (aU) (fun w hw=>hw))
  ·refine .exit (.ai (.ai (.ar ?_)))
   refine .ab (bg _ ?_)
   refine .sr fun _ bP=>?_
   refine .as rfl (.nt bP (.ret ?_))
   refine .aG rfl rfl (fun w hw=>⟨_,_,?_,rfl,.of (hw.pk [])⟩)
   refine ⟨congrArg (Value.int .i64) ?_,rfl⟩
   exact (zu fun i hi=>aV.2 i (by omega)).symm
theorem lx (w:World) (f:FuncId) (zT:aj Tryz.prog f) (p:Ex→Bool) (s:Value) (ks:List Ex) (ss:List Value) (hl:ss.length=ks.length) (mW:∀ i,i<ks.length→aB (ss.getD i undef)) (hr:Rd (fun b=>¬ (fun _=>False) b) w s 3 ks.length (dc ks ss)) (hf:∀ w',bj (fun _=>False) w w'→∀ i,i<ks.length→aK Tryz.prog f [.agg #[.int .i64 (ks.getD i default).op,.int .i64 (ks.getD i default).lt,ss.getD i undef]] w' (fun r o=>r = .bool (p (ks.getD i default))∧o=[])):aK Tryz.prog 105 [s,.func (.func f) #[] #[]] w (fun r o=>r = .bool (ks.any p)∧o=[]):=by
 have hm:=hr.le
 refine aC Tryz.func105 rfl (aT rfl) ?_
 refine .sr fun _ bl=>?_
 refine .as rfl (.nt bl ?_)
 refine .sr fun _ bg=>?_
 refine .mv rfl (.mv rfl ?_)
 refine .call Rv rfl (fun w hw=>Gt w f zT p s ks ss hl mW (hr.mono fun b _ bZ=>⟨id,hw.frame.block b bZ id⟩) (fun w' bI i hi=>hf w' (hw.frame.step bI (fun _ h _=>h)) i hi)) trivial rfl ?_
 rintro r o ⟨rfl,rfl⟩
 refine .v (.geq rfl rfl) (.as rfl (.nt bg (.ret ?_)))
 refine .aG rfl rfl (fun w hw=>⟨_,_,?_,rfl,.of (hw.pk [])⟩)
 refine ⟨congrArg Value.bool ?_,rfl⟩
 have:=(sP p ks).1
 rw [Bool.eq_iff_iff,this];simp
def Yj (e:Ex):Prop:=∀ (w:World) (s:Value) (h:dy (bD (fun _=>False) w) s e.kids),aK Tryz.prog 52 [.agg #[.int .i64 e.op,.int .i64 e.lt,s]] w (fun r o=>r = .bool (fq e)∧o=[])
set_option maxHeartbeats 1000000 in
theorem Dz (e:Ex) (ih:∀ i,i<e.kids.length→Yj (e.kids.getD i default)) (w:World) (s:Value) (h:dy (bD (fun _=>False) w) s e.kids):aK Tryz.prog 52 [.agg #[.int .i64 e.op,.int .i64 e.lt,s]] w (fun r o=>r = .bool (fq e)∧o=[]):=by
 obtain ⟨ss,hl,hx,hk⟩:=h.inv
 have hr:=hx.rd
 have hm:=hr.le
 refine aC Tryz.func52 rfl (aT rfl) ?_
 refine .sr fun _ bl=>?_
 refine .cS (E:=24) (cs:=[.int .i64 e.op,.int .i64 e.lt,s]) rfl rfl rfl trivial rfl (fun jV=>?_)
 refine .as rfl (.nt bl ?_)
 refine .seq fun _ bg=>?_
 refine .sr fun _ bW=>?_
 refine .v (.fieldAddr cP rfl) (.v (.aa cQ rfl ax rfl) (.nt bW (.block ?_)))
 refine .seq fun _ cr=>?_
 refine .sr fun _ cJ=>?_
 refine .v (.eql rfl rfl) (.as rfl (.nt cJ ?_))
 refine .aA rfl (fun bx=>?_) (fun bx=>?_)
 ·refine .skip ?_
  refine .ab (cr _ ?_)
  refine .cD rfl (decide_eq_true bx) ?_
  refine .sr fun _ cU=>?_
  refine .as rfl (.nt cU (.ret (.al (.ae ?_))))
  refine .aG rfl rfl (fun w hw=>⟨_,_,?_,rfl,.of (hw.pk [])⟩)
  refine ⟨congrArg Value.bool ?_,rfl⟩
  rw [iB e]
  clear hk hr h hx ih hl hw
  generalize e.kids.getD 0 default=x0 at *
  generalize e.kids.length=m at *
  (simp_all;done)
 ·refine .region ?_
  refine .v (.eql rfl rfl) (.as rfl (.nt cr ?_))
  refine .aA rfl (fun cB=>?_) (fun cB=>?_)
  ·refine .sr fun _ c7=>?_
   refine .as rfl (.nt c7 (.ret (.al (.ae ?_))))
   refine .aG rfl rfl (fun w hw=>⟨_,_,?_,rfl,.of (hw.pk [])⟩)
   refine ⟨congrArg Value.bool ?_,rfl⟩
   rw [iB e]
   clear hk hr h hx ih hl hw
   generalize e.kids.getD 0 default=x0 at *
   generalize e.kids.length=m at *
   (simp_all;done)
  ·refine .sr fun _ dm=>?_
   refine .v (.eql rfl rfl) (.as rfl (.nt dm ?_))
   refine .aA rfl (fun cZ=>?_) (fun cZ=>?_)
   ·refine .sr fun _ dD=>?_
    refine .v (.fieldAddr bM rfl) (.v (.aa du rfl ax rfl) ?_)
    refine .call Cw rfl (fun w hw=>lx w 52 Ei fq s e.kids ss hl (fun i hi=>(hk i hi).sl) (hr.mono fun b _ bZ=>⟨id,hw.frame.block b bZ id⟩) (fun w' bI i hi=>ih i hi w' _ (((hk i hi).at hw).fr bI))) trivial rfl ?_
    rintro r o ⟨rfl,rfl⟩
    refine .as rfl (.nt dD (.ret (.al (.ae ?_))))
    refine .aG rfl rfl (fun w hw=>⟨_,_,?_,rfl,.of (hw.pk [])⟩)
    refine ⟨congrArg Value.bool ?_,rfl⟩
    rw [iB e]
    clear hk hr h hx ih hl hw
    generalize e.kids.getD 0 default=x0 at *
    generalize e.kids.length=m at *
    (simp_all;done)
   ·refine .seq fun _ bJ=>?_
    refine .sr fun _ bP=>?_
    refine .v (.eql rfl rfl) (.as rfl (.nt bP ?_))
    refine .aA rfl (fun iz=>?_) (fun iz=>?_)
    ·refine .skip ?_
     refine .ab (bJ _ ?_)
     refine .cD rfl (decide_eq_true iz) ?_
     refine .seq fun _ ct=>?_
     refine .sr fun _ cK=>?_
     refine .v (.fieldAddr bM rfl) (.v (.aa du rfl ax rfl) (.v (.aZ aR rfl a8) (.mv rfl (.nt cK (.block ?_)))))
     refine .bE (X:=Nat) [(19,_),(20,_)] (fun k=>[(21,.int .i64 (k:Int))]) (fun k=>[box jV 24 3 [.int .i64 e.op,.int .i64 e.lt,s]]) (fun k=>k≤e.kids.length∧∀ i,i<k→fq (e.kids.getD i default)=true) (fun k=>e.kids.length - k) (0) aU ?_ ?_ ?_ ?_
     ·exact ⟨Nat.zero_le _,fun i hi=>(by omega)⟩
     ·exact aU
     ·exact fun w hw=>hw
     ·intro k aV _ cW
      refine .sr fun _ c8=>?_
      refine .v (.lss rfl rfl) (.nt c8 ?_)
      refine .seq fun _ dw=>?_
      refine .aA rfl (fun qp=>?_) (fun qp=>?_)
      ·have sk:=(hk k (by omega)).sl
       refine .skip ?_
       refine .ab (dw _ ?_)
       refine .seq fun _ dE=>?_
       refine .block ?_
       refine .sr fun _ dR=>?_
       refine .v (.iN aR rfl rfl) ?_
       refine .v (.da aM rfl a8 (by assumption) rfl (by omega)) ?_
       refine .alloc cC rfl rfl trivial rfl (fun iD=>?_)
       refine .ah 1 (us:=[.int .i64 (e.kids.getD k default).op,.int .i64 (e.kids.getD k default).lt,ss.getD k undef]) (cs':=[.int .i64 (e.kids.getD k default).op,.int .i64 (e.kids.getD k default).lt,ss.getD k undef]) rfl cy rfl rfl rfl rfl aJ (aT rfl) rfl trivial ?_
       refine .nt dR ?_
       refine .sr fun _ dO=>?_
       refine .v (.ak aM rfl ax rfl rfl) ?_
       refine .call Ei rfl (fun w hw=>ih k (by omega) w _ ((hk k (by omega)).at hw)) trivial rfl ?_
       rintro r o ⟨rfl,rfl⟩
       refine .v (.not rfl) (.nt dO ?_)
       refine .eW rfl (fun ka=>?_) (fun ka=>?_)
       ·refine .sr fun _ eJ=>?_
        refine .as rfl (.nt eJ (.ret (.al (.ae (.ae (.al (.ae (.al (.ae ?_)))))))))
        refine .aG rfl rfl (fun w hw=>⟨_,_,?_,rfl,.of (hw.pk [])⟩)
        refine ⟨congrArg Value.bool ?_,rfl⟩
        rw [iB e,all_false (k:=k) (by omega) (by simpa using ka)]
        clear hk hr h hx ih hl aV
        (simp_all;done)
       ·refine .skip (.ag ?_)
        refine .ab (dE _ ?_)
        refine .region ?_
        refine .v (.add rfl rfl (by omega)) ?_
        refine .mv rfl (.nil ?_)
        refine .ab (cW _ _ (k+1) ⟨by omega,fun i hi=>by rcases Nat.lt_or_ge i k with uK | uK;exact aV.2 i uK;obtain rfl:i=k:=(by omega);simpa using ka⟩ (by omega) (aU) (fun w hw=>hw.pk [0]))
      ·refine .exit (.ai (.ai (.ar ?_)))
       refine .ab (ct _ ?_)
       refine .sr fun _ eY=>?_
       refine .as rfl (.nt eY (.ret (.al (.ae ?_))))
       refine .aG rfl rfl (fun w hw=>⟨_,_,?_,rfl,.of (hw.pk [])⟩)
       refine ⟨congrArg Value.bool ?_,rfl⟩
       have ha:=all_true (p:=fq) (ks:=e.kids) (fun i hi=>aV.2 i (by omega))
       rw [iB e,ha]
       clear hk hr h hx ih hl aV
       (simp_all;done)
    ·refine .region ?_
     refine .v (.eql rfl rfl) (.as rfl (.nt bJ ?_))
     refine .aA rfl (fun gn=>?_) (fun gn=>?_)
     ·refine .seq fun _ eI=>?_
      refine .sr fun _ fH=>?_
      refine .v (.fieldAddr bM rfl) (.v (.aa du rfl ax rfl) (.v (.aZ aR rfl a8) (.mv rfl (.nt fH (.block ?_)))))
      refine .bE (X:=Nat) [(19,_),(20,_)] (fun k=>[(21,.int .i64 (k:Int))]) (fun k=>[box jV 24 3 [.int .i64 e.op,.int .i64 e.lt,s]]) (fun k=>k≤e.kids.length∧∀ i,i<k→fq (e.kids.getD i default)=true) (fun k=>e.kids.length - k) (0) aU ?_ ?_ ?_ ?_
      ·exact ⟨Nat.zero_le _,fun i hi=>(by omega)⟩
      ·exact aU
      ·exact fun w hw=>hw
      ·intro k aV _ gq
       refine .sr fun _ iT=>?_
       refine .v (.lss rfl rfl) (.nt iT ?_)
       refine .seq fun _ iZ=>?_
       refine .aA rfl (fun qp=>?_) (fun qp=>?_)
       ·have sk:=(hk k (by omega)).sl
        refine .skip ?_
        refine .ab (iZ _ ?_)
        refine .seq fun _ iS=>?_
        refine .block ?_
        refine .sr fun _ jy=>?_
        refine .v (.iN aR rfl rfl) ?_
        refine .v (.da aM rfl a8 (by assumption) rfl (by omega)) ?_
        refine .alloc cC rfl rfl trivial rfl (fun iD=>?_)
        refine .ah 1 (us:=[.int .i64 (e.kids.getD k default).op,.int .i64 (e.kids.getD k default).lt,ss.getD k undef]) (cs':=[.int .i64 (e.kids.getD k default).op,.int .i64 (e.kids.getD k default).lt,ss.getD k undef]) rfl cy rfl rfl rfl rfl aJ (aT rfl) rfl trivial ?_
        refine .nt jy ?_
        refine .sr fun _ kf=>?_
        refine .v (.ak aM rfl ax rfl rfl) ?_
        refine .call Ei rfl (fun w hw=>ih k (by omega) w _ ((hk k (by omega)).at hw)) trivial rfl ?_
        rintro r o ⟨rfl,rfl⟩
        refine .v (.not rfl) (.nt kf ?_)
        refine .eW rfl (fun ka=>?_) (fun ka=>?_)
        ·refine .sr fun _ kB=>?_
         refine .as rfl (.nt kB (.ret (.al (.ae (.ae (.al (.ae (.al (.ae ?_)))))))))
         refine .aG rfl rfl (fun w hw=>⟨_,_,?_,rfl,.of (hw.pk [])⟩)
         refine ⟨congrArg Value.bool ?_,rfl⟩
         rw [iB e,all_false (k:=k) (by omega) (by simpa using ka)]
         clear hk hr h hx ih hl aV
         (simp_all;done)
        ·refine .skip (.ag ?_)
         refine .ab (iS _ ?_)
         refine .region ?_
         refine .v (.add rfl rfl (by omega)) ?_
         refine .mv rfl (.nil ?_)
         refine .ab (gq _ _ (k+1) ⟨by omega,fun i hi=>by rcases Nat.lt_or_ge i k with uK | uK;exact aV.2 i uK;obtain rfl:i=k:=(by omega);simpa using ka⟩ (by omega) (aU) (fun w hw=>hw.pk [0]))
       ·refine .exit (.ai (.ai (.ar ?_)))
        refine .ab (eI _ ?_)
        refine .sr fun _ ke=>?_
        refine .as rfl (.nt ke (.ret (.al (.ae ?_))))
        refine .aG rfl rfl (fun w hw=>⟨_,_,?_,rfl,.of (hw.pk [])⟩)
        refine ⟨congrArg Value.bool ?_,rfl⟩
        have ha:=all_true (p:=fq) (ks:=e.kids) (fun i hi=>aV.2 i (by omega))
        rw [iB e,ha]
        clear hk hr h hx ih hl aV
        (simp_all;done)
     ·refine .sr fun _ nj=>?_
      refine .v (.eql rfl rfl) (.as rfl (.nt nj ?_))
      refine .aA rfl (fun tb=>?_) (fun tb=>?_)
      ·refine .sr fun _ lE=>?_
       refine .v (.fieldAddr bM rfl) (.v (.aa du rfl ax rfl) (.v (.aZ aR rfl a8) (.v (.eql rfl rfl) (.mv rfl ?_))))
       refine .bQ (g:=35) rfl (fun dV=>?_) (fun dV=>?_)
       ·have xj:=dV
        try simp only [bs] at xj
        refine .val _ (.fieldAddr bM rfl) ⟨_,rfl,gB dV⟩ rfl ?_
        refine .val _ (.aa du rfl ax rfl) ⟨_,rfl,gB dV⟩ rfl ?_
        refine .val _ (.qi (k:=0) aR rfl rfl a8 (by decide) (by have:=dV;simp at this;omega)) ⟨_,rfl,gB dV⟩ rfl ?_
        refine .val _ (.da aM rfl a8 (by assumption) rfl (by omega)) ⟨_,rfl,gB dV⟩ rfl ?_
        refine .call Ei rfl (fun w hw=>ih 0 (by have:=dV;simp at this;omega) w _ ((hk 0 (by have:=dV;simp at this;omega)).at hw)) ⟨_,rfl,gB dV⟩ rfl ?_
        rintro r o ⟨rfl,rfl⟩
        refine .val _ (.not rfl) ⟨_,rfl,gB dV⟩ rfl ?_
        refine .v (.bw rfl (dV) rfl) (.as rfl (.nt lE (.ret (.al (.ae ?_)))))
        refine .aG rfl rfl (fun w hw=>⟨_,_,?_,rfl,.of (hw.pk [])⟩)
        refine ⟨congrArg Value.bool ?_,rfl⟩
        rw [iB e]
        clear hk hr h hx ih hl hw
        generalize e.kids.getD 0 default=x0 at *
        generalize e.kids.length=m at *
        grind
       ·have xj:=dV
        try simp only [bs] at xj
        refine .pass rfl rfl (dV) rfl ?_
        refine .pass rfl rfl (dV) rfl ?_
        refine .pass rfl rfl (dV) rfl ?_
        refine .pass rfl rfl (dV) rfl ?_
        refine .pass rfl rfl (dV) rfl ?_
        refine .pass rfl rfl (dV) rfl ?_
        refine .v (.cH rfl (dV) rfl) (.as rfl (.nt lE (.ret (.al (.ae ?_)))))
        refine .aG rfl rfl (fun w hw=>⟨_,_,?_,rfl,.of (hw.pk [])⟩)
        refine ⟨congrArg Value.bool ?_,rfl⟩
        rw [iB e]
        clear hk hr h hx ih hl hw
        generalize e.kids.getD 0 default=x0 at *
        generalize e.kids.length=m at *
        grind
      ·refine .skip (.ag ?_)
       refine .ab (bg _ ?_)
       refine .sr fun _ oG=>?_
       refine .as rfl (.nt oG (.ret ?_))
       refine .aG rfl rfl (fun w hw=>⟨_,_,?_,rfl,.of (hw.pk [])⟩)
       refine ⟨congrArg Value.bool ?_,rfl⟩
       rw [iB e]
       clear hk hr h hx ih hl hw
       generalize e.kids.getD 0 default=x0 at *
       generalize e.kids.length=m at *
       (simp_all;done)
theorem Eo (e:Ex):Yj e:=Ex.ind (P:=Yj) (fun e ih w s h=>Dz e ih w s h) e
end Go.Proofs.YtbibnpdnmmgacaaGreatDoor
namespace Go.Proofs.YtbibnpdnmmgacaaGreatDoor
open Go.Sx Go.RowKit
set_option maxHeartbeats 800000 in
theorem tV (w:World) (op:Int) (s:Value) (ks:List Ex) (ss:List Value) (lH:List (List Value)) (hl:ss.length=ks.length) (WB:lH.length=ks.length) (h3:∀ i,i<ks.length→(lH.getD i []).length=(ks.getD i default).kids.length) (hr:Rd (fun b=>¬ (fun _=>False) b) w s 3 ks.length (dc ks ss)) (hkr:∀ i,i<ks.length→Rd (fun b=>¬ (fun _=>False) b) w (ss.getD i undef) 3 (ks.getD i default).kids.length (dc (ks.getD i default).kids (lH.getD i []))) (mW:∀ i,i<ks.length→aB (ss.getD i undef)) (Jp:∀ i,i<ks.length→∀ j,j<(ks.getD i default).kids.length→aB ((lH.getD i []).getD j undef)) (z8:(bG op ks).length≤1073741824):aK Tryz.prog 193 [.int .i64 op,s] w (fun r o=>aB r∧o=[row r 24 3 (bG op ks).length (dc (bG op ks) (gY op ks ss lH))]):=by
 have hm:=hr.le
 refine aC Tryz.func193 rfl (aT rfl) ?_
 refine .sr fun _ bl=>?_
 refine .as rfl (.nt bl ?_)
 refine .sr fun _ bg=>?_
 refine .as rfl (.nt bg ?_)
 refine .seq fun _ bW=>?_
 refine .sr fun _ cr=>?_
 refine .mv rfl (.v (.aZ aR rfl a8) (.mv rfl (.nt cr (.block ?_))))
 refine .bE (X:=Nat × Value) [(0,_),(8,_),(9,_)] (fun x=>[(10,.int .i64 (x.1:Int)),(5,x.2)]) (fun x=>[row x.2 24 3 (bG op (ks.take x.1)).length (dc (bG op (ks.take x.1)) (gY op (ks.take x.1) (ss.take x.1) (lH.take x.1)))]) (fun x=>x.1≤ks.length∧aB x.2) (fun x=>ks.length - x.1) ((0,.slice none 0 0)) aU ?_ ?_ ?_ ?_
 ·exact ⟨Nat.zero_le _,cq⟩
 ·exact aU
 ·exact fun w hw=>by simpa [bG,gY,dc] using hw.ghost 24 3
 ·intro x aV _ cJ
  refine .sr fun _ cU=>?_
  refine .v (.lss rfl rfl) (.nt cU ?_)
  refine .seq fun _ c7=>?_
  refine .aA rfl (fun bx=>?_) (fun bx=>?_)
  ·have sk:=mW x.1 (by omega)
   have hb:=yK op ks (x.1+1)
   rw [aO default ks x.1 (by omega),ry,List.length_append] at hb
   refine .skip ?_
   refine .ab (c7 _ ?_)
   refine .seq fun _ dm=>?_
   refine .block ?_
   refine .sr fun _ dD=>?_
   refine .v (.iN aR rfl rfl) ?_
   refine .v (.da aM rfl a8 (by assumption) rfl (by omega)) ?_
   refine .alloc cC rfl rfl trivial rfl (fun oe=>?_)
   refine .ah 1 (us:=[.int .i64 (ks.getD x.1 default).op,.int .i64 (ks.getD x.1 default).lt,ss.getD x.1 undef]) (cs':=[.int .i64 (ks.getD x.1 default).op,.int .i64 (ks.getD x.1 default).lt,ss.getD x.1 undef]) rfl cy rfl rfl rfl rfl aJ (aT rfl) rfl trivial ?_
   refine .nt dD ?_
   refine .sr fun _ bJ=>?_
   refine .v (.fieldAddr cP rfl) (.v (.aa cQ rfl ax rfl) (.mv rfl (.v (.eql rfl rfl) (.nt bJ ?_))))
   refine .aA rfl (fun cB=>?_) (fun cB=>?_)
   ·rw [if_pos cB] at hb
    refine .region ?_
    refine .mv rfl (.v (.fieldAddr bM rfl) (.v (.aa du rfl ax rfl) ?_))
    refine .gA 0 rfl aR cC rfl (by decide) rfl rfl rfl (cR.arg (hkr x.1 (by omega))) (mA _ _ (pf fun j hj=>Jp x.1 (by omega) j (by rw [← h3 x.1 (by omega)];exact hj))) (by omega) (by omega) trivial rfl (fun aaF=>?_)
    refine .shape 0 rfl (fun Wq=>?_)
    refine .as rfl (.nil (.ag ?_))
    refine .ab (dm _ ?_)
    refine .region ?_
    refine .v (.add rfl rfl (by omega)) ?_
    refine .mv rfl (.nil ?_)
    refine .ab (cJ _ _ ((x.1+1,aaF)) ⟨by dsimp only;omega,Wq⟩ (by dsimp only;omega) (aU) (fun w hw=>by dsimp only;rw [aO default ks x.1 (by omega),aO undef ss x.1 (by omega),aO [] lH x.1 (by omega),ry,rq op _ _ _ _ _ _ (by simp;omega) (by simp;omega),iI _ _ _ _ (zz hl WB h3 x.1),List.length_append,if_pos cB,if_pos cB];exact hw.pk [0]))
   ·rw [if_neg cB,List.length_singleton] at hb
    refine .region ?_
    refine .mv rfl (.v (.ak aM rfl ax rfl rfl) ?_)
    refine .fF 0 rfl aR cC rfl (by decide) rfl (by intro k hk;cases hk;rfl) rfl (aw rfl (aw rfl (aw (aB.one sk) bY))) (by omega) (by omega) (by decide) rfl rfl (fun aaE _ Vp=>?_)
    refine .as rfl (.nil (.ag ?_))
    refine .ab (dm _ ?_)
    refine .region ?_
    refine .v (.add rfl rfl (by omega)) ?_
    refine .mv rfl (.nil ?_)
    refine .ab (cJ _ _ ((x.1+1,aaE)) ⟨by dsimp only;omega,Vp⟩ (by dsimp only;omega) (aU) (fun w hw=>by dsimp only;rw [aO default ks x.1 (by omega),aO undef ss x.1 (by omega),aO [] lH x.1 (by omega),ry,rq op _ _ _ _ _ _ (by simp;omega) (by simp;omega),iI _ _ _ _ (zz hl WB h3 x.1),List.length_append,if_neg cB,if_neg cB];exact hw.pk [0]))
  ·refine .exit (.ai (.ai (.ar ?_)))
   refine .ab (bW _ ?_)
   refine .sr fun _ bP=>?_
   refine .mv rfl (.as rfl (.nt bP (.ret ?_)))
   refine .aG rfl rfl (fun w hw=>⟨_,_,?_,rfl,.of (hw.pk [0])⟩)
   have e1:x.1=ks.length:=by omega
   rw [e1,List.take_length,List.take_of_length_le (by omega),List.take_of_length_le (by omega)]
   exact ⟨aV.2,rfl⟩
set_option maxHeartbeats 800000 in
theorem sC (w:World) (F:Nat→Prop) (f:FuncId) (zT:aj Tryz.prog f) (p:Ex→Bool) (s:Value) (ks:List Ex) (ss:List Value) (hl:ss.length=ks.length) (mW:∀ i,i<ks.length→aB (ss.getD i undef)) (hA:(row s 24 3 ks.length (dc ks ss)).holds w F) (hf:∀ w',bj F w w'→∀ i,i<ks.length→aK Tryz.prog f [.agg #[.int .i64 (ks.getD i default).op,.int .i64 (ks.getD i default).lt,ss.getD i undef]] w' (fun r o=>r = .bool (p (ks.getD i default))∧o=[])):ck Tryz.prog 129 [s,.func (.func f) #[] #[]] w F (fun r A o=>∃ jw,aB r∧A=row r 24 3 (ks.filter (fun e=>!p e)).length (dc (ks.filter (fun e=>!p e)) jw)∧o=[]∧kS (ks.filter (fun e=>!p e)) jw ks ss):=by
 have MH:=tI hA
 have hm:=(oT hA).le
 refine cu Tryz.func129 rfl (aT rfl) hA ?_
 refine .sr fun _ bl=>?_
 refine .as rfl (.nt bl ?_)
 refine .sr fun _ bg=>?_
 refine .mv rfl (.mv rfl ?_)
 refine .call Rv rfl (fun w hw=>Gt w f zT p s ks ss hl mW ((cR.own 0 rfl w hw).mono fun b _ _=>⟨id,rfl⟩) (fun w' bI i hi=>hf w' (hw.frame.step bI (fun _ h _=>h.elim)) i hi)) trivial rfl ?_
 rintro r o ⟨rfl,rfl⟩
 obtain ⟨ia,ib,ic⟩:=sP p ks
 refine .as rfl (.nt bg ?_)
 refine .seq fun _ bW=>?_
 refine .sr fun _ cr=>?_
 refine .mv rfl (.v (.eql rfl rfl) (.nt cr ?_))
 refine .aA rfl (fun bx=>?_) (fun bx=>?_)
 ·refine .sr fun _ cJ=>?_
  refine .mv rfl (.as rfl (.nt cJ (.ret (.ae ?_))))
  refine .aG rfl rfl (fun w hw=>⟨_,_,_,?_,rfl,.of (hw.pk [0])⟩)
  have vv:ks.any p=false:=by
   cases h:ks.any p with
   | false=>rfl
   | true=>have:=ia.1 h;omega
  rw [Fa vv]
  exact ⟨ss,MH,rfl,rfl,kS.rfl hl⟩
 ·have vv:ks.any p=true:=ia.2 (by omega)
  have TX:qj p ks=((ks.findIdx p:Nat):Int):=by unfold qj;rw [if_pos vv]
  rw [TX] at ib ic bx ⊢
  have mg:=rM.start (p:=p) hl vv
  have HA:=(qF vv).1
  refine .skip ?_
  refine .ab (bW _ ?_)
  refine .seq fun _ cU=>?_
  refine .sr fun _ c7=>?_
  refine .mv rfl ?_
  refine .v (.add rfl rfl (by omega)) ?_
  refine .as rfl (.nt c7 (.block ?_))
  refine .bE (X:=Nat × Nat × List Ex × List Value) [(0,_),(1,_)] (fun x=>[(6,.int .i64 (x.1:Int)),(5,.int .i64 (x.2.1:Int))]) (fun x=>[row s 24 3 ks.length (dc x.2.2.1 x.2.2.2)]) (fun x=>rM (fun e=>!p e) ks ss x.1 x.2.1 x.2.2.1 x.2.2.2) (fun x=>ks.length - x.1) ((ks.findIdx p+1,ks.findIdx p,ks,ss)) aU ?_ ?_ ?_ ?_
  ·exact mg
  ·exact .cons (s9 rfl (by omega)) (aU)
  ·exact fun w hw=>hw
  ·intro x aV _ dm
   refine .seq fun _ dD=>?_
   refine .sr fun _ bJ=>?_
   refine .mv rfl (.mv rfl (.v (.aZ aR rfl a8) (.v (.lss rfl rfl) (.nt bJ ?_))))
   refine .aA rfl (fun cB=>?_) (fun cB=>?_)
   ·have Rh:x.1<ks.length:=by omega
    have oA:=aV.lt
    have eo:=aV.len
    have Rg:=aV.mh
    have sk:aB (x.2.2.2.getD x.1 undef):=by rw [(aV.IX x.1 (Nat.le_refl _)).2];exact mW x.1 Rh
    refine .skip ?_
    refine .ab (dD _ ?_)
    refine .seq fun _ bP=>?_
    refine .block ?_
    refine .sr fun _ ct=>?_
    refine .mv rfl (.mv rfl (.v (.iN aR rfl rfl) ?_))
    refine .v (.da aM rfl a8 (by assumption) (by omega) (by omega)) ?_
    refine .alloc cC rfl rfl trivial rfl (fun oe=>?_)
    refine .ah 1 (us:=[.int .i64 (x.2.2.1.getD x.1 default).op,.int .i64 (x.2.2.1.getD x.1 default).lt,x.2.2.2.getD x.1 undef]) (cs':=[.int .i64 (x.2.2.1.getD x.1 default).op,.int .i64 (x.2.2.1.getD x.1 default).lt,x.2.2.2.getD x.1 undef]) rfl cy rfl rfl rfl rfl aJ (aT rfl) rfl trivial ?_
    refine .nt ct ?_
    refine .sr fun _ cK=>?_
    refine .mv rfl (.v (.ak aM rfl ax rfl rfl) ?_)
    refine .oQ (us:=[]) (cs:=[]) zT rfl rfl (fun w hw=>(by have:=hf w hw.frame x.1 (by omega);have e:=aV.IX x.1 (Nat.le_refl _);rw [← e.1,← e.2] at this;exact this)) trivial rfl ?_
    rintro r o ⟨rfl,rfl⟩
    refine .v (.not rfl) (.nt cK ?_)
    refine .eW rfl (fun cZ=>?_) (fun cZ=>?_)
    ·refine .sr fun _ cW=>?_
     refine .mv rfl (.mv rfl (.v (.ak aM rfl ax rfl rfl) (.v (.iN aR rfl rfl) ?_)))
     refine .fV 0 rfl cy rfl rfl rfl rfl (aw rfl (aw rfl (aw (aB.one sk) bY))) (by omega) (cs':=dc (x.2.2.1.set x.2.1 (x.2.2.1.getD x.1 default)) (x.2.2.2.set x.2.1 (x.2.2.2.getD x.1 undef))) (AD _ _ _ Rg (by omega) _ _) trivial ?_
     refine .nt cW ?_
     refine .region ?_
     refine .mv rfl ?_
     refine .v (.add rfl rfl (by omega)) ?_
     refine .as rfl (.nil (.ag ?_))
     refine .ab (bP _ ?_)
     refine .region ?_
     refine .mv rfl ?_
     refine .v (.add rfl rfl (by omega)) ?_
     refine .as rfl (.nil ?_)
     refine .ab (dm _ _ ((x.1+1,x.2.1+1,x.2.2.1.set x.2.1 (x.2.2.1.getD x.1 default),x.2.2.2.set x.2.1 (x.2.2.2.getD x.1 undef))) (aV.Ce Rh (by have e:=(aV.IX x.1 (Nat.le_refl _)).1;rw [e] at cZ;show (!p _)=_;rw [cZ];rfl)) (by dsimp only;omega) (aU) (fun w hw=>hw.pk [0]))
    ·refine .skip (.ag ?_)
     refine .ab (bP _ ?_)
     refine .region ?_
     refine .mv rfl ?_
     refine .v (.add rfl rfl (by omega)) ?_
     refine .as rfl (.nil ?_)
     refine .ab (dm _ _ ((x.1+1,x.2.1,x.2.2.1,x.2.2.2)) (aV.drop Rh (by have e:=(aV.IX x.1 (Nat.le_refl _)).1;rw [e] at cZ;show (!p _)=_;rw [cZ];rfl)) (by dsimp only;omega) (aU) (fun w hw=>hw.pk [0]))
   ·have oA:=aV.lt
    have hle:=aV.le
    have eo:=aV.len
    have Rg:=aV.mh
    refine .exit (.ai (.ai (.ar ?_)))
    refine .ab (cU _ ?_)
    refine .sr fun _ c8=>?_
    refine .mv rfl (.mv rfl ?_)
    refine .v (.rX (mn.row 0 rfl) aR rfl rfl (by omega)) ?_
    refine .KD 0 (ks:=x.2.2.1) (ss:=x.2.2.2) rfl aR cC rfl (by omega) Rg (by omega) trivial (fun cs oB=>?_)
    refine .nt c8 ?_
    refine .sr fun _ dw=>?_
    refine .mv rfl (.mv rfl ?_)
    refine .v (.sliceTo 0 rfl aR rfl rfl (by omega)) ?_
    refine .as rfl (.nt dw (.ret ?_))
    refine .Gx 0 x.2.1 rfl (by omega) ?_
    refine .aG rfl rfl (fun w hw=>⟨_,_,_,?_,rfl,.of (hw.pk [0])⟩)
    have Xv:x.1=ks.length:=by omega
    rw [Xv] at aV
    obtain ⟨ps,e1,e2⟩:=aV.QZ
    have HB:cs.take (x.2.1 * 3)=dc (x.2.2.1.take x.2.1) (x.2.2.2.take x.2.1):=oB
    rw [e1] at HB
    refine ⟨x.2.2.2.take x.2.1,Gj _ MH,?_,rfl,ps⟩
    rw [HB,← e2]
    rfl
theorem tW (w:World) (op:Int) (s:Value) (ks:List Ex) (ss:List Value) (hl:ss.length=ks.length) (hr:Rd (fun b=>¬ (fun _=>False) b) w s 3 ks.length (dc ks ss)) (nn:Ex) (ns:Value) (mW:∀ i,i<ks.length→aB (ss.getD i undef)) (hns:aB ns):aK Tryz.prog 194 [.int .i64 op,s,.agg #[.int .i64 nn.op,.int .i64 nn.lt,ns]] w (fun r o=>∃ sr,r = .agg #[.int .i64 (bp op ks nn).op,.int .i64 (bp op ks nn).lt,sr]∧aB sr∧o=[]∧((ks=[]∧sr=ns)∨(ks.length=1∧sr=ss.getD 0 undef)∨(2≤ks.length∧sr=s))):=by
 have hm:=hr.le
 have Qx:=Rd.sl hr
 refine aC Tryz.func194 rfl (aT rfl) ?_
 refine .sr fun _ bl=>?_
 refine .cS (E:=24) (cs:=[.int .i64 nn.op,.int .i64 nn.lt,ns]) rfl rfl rfl trivial rfl (fun D4=>?_)
 refine .alloc cC rfl rfl trivial rfl (fun oy=>?_)
 refine .nt bl ?_
 refine .seq fun _ bg=>?_
 refine .sr fun _ bW=>?_
 refine .mv rfl (.v (.aZ aR rfl a8) (.nt bW (.block ?_)))
 refine .sr fun _ cr=>?_
 refine .v (.eql rfl rfl) (.as rfl (.nt cr ?_))
 refine .aA rfl (fun bx=>?_) (fun bx=>?_)
 ·refine .sr fun _ cJ=>?_
  refine .v (.ak aM rfl ax rfl rfl) ?_
  refine .ah 1 (us:=[.int .i64 nn.op,.int .i64 nn.lt,ns]) (cs':=[.int .i64 nn.op,.int .i64 nn.lt,ns]) rfl cy rfl rfl rfl rfl aJ (aT rfl) rfl trivial ?_
  refine .nt cJ (.ret (.al (.ae ?_)))
  refine .cO [.cell 6 24] rfl (.cons (.cell aM rfl ax rfl rfl) (.nil)) (fun w hw=>⟨_,_,?_,rfl,.of (hw.pk [])⟩)
  have vm:ks=[]:=List.eq_nil_of_length_eq_zero (by omega)
  subst vm
  exact ⟨ns,rfl,hns,rfl,.inl ⟨rfl,rfl⟩⟩
 ·refine .sr fun _ cU=>?_
  refine .v (.eql rfl rfl) (.as rfl (.nt cU ?_))
  refine .aA rfl (fun cB=>?_) (fun cB=>?_)
  ·have Ho:ks.length=1:=by omega
   have sk:=mW 0 (by omega)
   refine .sr fun _ c7=>?_
   refine .mv rfl ?_
   refine .v (.qi (k:=0) aR rfl rfl a8 (by decide) (by omega)) ?_
   refine .v (.da aM rfl a8 (by assumption) rfl (by omega)) ?_
   refine .ah 1 (us:=[.int .i64 (ks.getD 0 default).op,.int .i64 (ks.getD 0 default).lt,ss.getD 0 undef]) (cs':=[.int .i64 (ks.getD 0 default).op,.int .i64 (ks.getD 0 default).lt,ss.getD 0 undef]) rfl cy rfl rfl rfl rfl aJ (aT rfl) rfl trivial ?_
   refine .nt c7 (.ret (.al (.ae ?_)))
   refine .cO [.cell 6 24] rfl (.cons (.cell aM rfl ax rfl rfl) (.nil)) (fun w hw=>⟨_,_,?_,rfl,.of (hw.pk [])⟩)
   obtain ⟨k,rfl⟩:∃ k,ks=[k]:=List.length_eq_one_iff.1 Ho
   exact ⟨_,rfl,sk,rfl,.inr (.inl ⟨rfl,rfl⟩)⟩
  ·refine .skip (.ag ?_)
   refine .ab (bg _ ?_)
   refine .sr fun _ dm=>?_
   refine .mv rfl (.mv rfl ?_)
   refine .v (.build (parts:=[(0,.tmp 17),(2,.tmp 18)]) (cs:=#[.int .i64 op,.int .i64 0,s]) rfl (by obtain ⟨_,_,_,rfl⟩:=Qx;kernel_rfl)) ?_
   refine .ah 1 (us:=[.int .i64 op,.int .i64 0,s]) (cs':=[.int .i64 op,.int .i64 0,s]) rfl cy rfl rfl rfl rfl aJ (aT rfl) rfl trivial ?_
   refine .nt dm (.ret ?_)
   refine .cO [.cell 6 24] rfl (.cons (.cell aM rfl ax rfl rfl) (.nil)) (fun w hw=>⟨_,_,?_,rfl,.of (hw.pk [])⟩)
   match ks,bx,cB with
   | [],h,_=>simp at h
   | [k],_,h=>simp at h
   | a :: b :: l,_,_=>exact ⟨s,rfl,Qx,rfl,.inr (.inr ⟨by simp,rfl⟩)⟩
end Go.Proofs.YtbibnpdnmmgacaaGreatDoor
namespace Go.Proofs
open Go.Shelf
def Tryz.DD:Go.Shelf.Ren:=⟨fun | 125=>110 | 128=>163 | 129=>164 | n=>n,fun | 46=>130 | 3=>3 | 51=>206 | 53=>42 | 4=>4 | 5=>5 | 9=>9 | n=>n,fun | n=>n⟩
theorem Tryz.Oq:Go.Proofs.Lays.n125 Tryz.prog Tryz.DD:={
 mixed:=by kernel_rfl
 f125:=Tryz.func110.trans (congrArg some (by kernel_rfl))
 f128:=Tryz.func163.trans (congrArg some (by kernel_rfl))
 f129:=Tryz.func164.trans (congrArg some (by kernel_rfl))
 t3:=Tryz.underlying3
 a3:=Tryz.isAgg3
 z3:=Tryz.sizeOf3
 v3:=Tryz.zeroValue3
 t4:=Tryz.underlying4
 a4:=Tryz.isAgg4
 z4:=Tryz.sizeOf4
 v4:=Tryz.zeroValue4
 t5:=Tryz.underlying5
 a5:=Tryz.isAgg5
 z5:=Tryz.sizeOf5
 v5:=Tryz.zeroValue5
 t9:=Tryz.underlying9
 a9:=Tryz.isAgg9
 z9:=Tryz.sizeOf9
 v9:=Tryz.zeroValue9
 t46:=Tryz.underlying130
 a46:=Tryz.isAgg130
 z46:=Tryz.sizeOf130
 v46:=Tryz.zeroValue130
 t51:=Tryz.underlying206
 a51:=Tryz.isAgg206
 z51:=Tryz.sizeOf206
 v51:=Tryz.zeroValue206
 t53:=Tryz.underlying42
 a53:=Tryz.isAgg42
 z53:=Tryz.sizeOf42
 v53:=Tryz.zeroValue42 }
theorem Tryz.bits_Len (x:Int) (w:World) (h0:0≤x) (h1:x≤18446744073709551615) :
 Calls Tryz.prog 110 #[.int .u64 x] w fun e w'=>e = .returned (.int .i64 (Lib.bitLen x.toNat))∧w'=w:=Any.bits_Len Tryz.Oq x w h0 h1
end Go.Proofs
namespace Go.Proofs.YtbibnpdnmmgacaaGreatDoor
open Go.Sx Go.RowKit
theorem jN (w:World) (v:Value) (d:bB) (h:oD (fun _=>False) w v d):aK Tryz.prog 23 [v] w (fun r o=>r = .int .i64 (nk d)∧o=[]):=by
 have h0:=h
 obtain ⟨vF,vN,rfl,hF,hN⟩:=h
 obtain ⟨rs,yM,DX,DY⟩:=hN
 have sF:=hF.sl
 have sN:=DX.sl
 have BU:=hF.le
 have WJ:=DX.le
 unfold lQ at hF
 refine aC Tryz.func23 rfl (aT rfl) ?_
 refine .sr fun _ bl=>?_
 refine .cS (E:=32) (cs:=[.int .i64 d.L,.int .i64 d.s,vF,vN]) rfl rfl rfl trivial rfl (fun jV=>?_)
 refine .as rfl (.nt bl ?_)
 refine .seq fun _ bg=>?_
 refine .sr fun _ bW=>?_
 refine .v (.fieldAddr kn rfl) (.v (.aa cQ rfl ax rfl) (.v (.lss rfl rfl) (.mv rfl ?_)))
 refine .bQ (g:=11) rfl (fun a7=>?_) (fun a7=>?_)
 ·have dP:=a7
  try simp only [bs] at dP
  refine .pass rfl rfl (a7) rfl ?_
  refine .pass rfl rfl (a7) rfl ?_
  refine .pass rfl rfl (a7) rfl ?_
  refine .v (.bw rfl (a7) rfl) (.nt bW ?_)
  refine .cD rfl (rfl) ?_
  refine .sr fun _ cr=>?_
  refine .as rfl (.nt cr (.ret (.ae ?_)))
  refine .aG rfl rfl (fun w hw=>⟨_,_,?_,rfl,.of (hw.pk [])⟩)
  refine ⟨congrArg (Value.int .i64) ?_,rfl⟩;unfold nk;rw [if_pos (by omega)]
 ·have dP:=a7
  try simp only [bs] at dP
  refine .val _ (.fieldAddr kn rfl) ⟨_,rfl,gB a7⟩ rfl ?_
  refine .val _ (.aa cQ rfl ax rfl) ⟨_,rfl,gB a7⟩ rfl ?_
  refine .val _ (.gtr rfl rfl) ⟨_,rfl,gB a7⟩ rfl ?_
  refine .v (.cH rfl (a7) rfl) (.nt bW ?_)
  refine .aA rfl (fun bx=>?_) (fun bx=>?_)
  ·refine .sr fun _ cJ=>?_
   refine .as rfl (.nt cJ (.ret (.ae ?_)))
   refine .aG rfl rfl (fun w hw=>⟨_,_,?_,rfl,.of (hw.pk [])⟩)
   refine ⟨congrArg (Value.int .i64) ?_,rfl⟩;unfold nk;rw [if_pos (by omega)]
  ·refine .skip ?_
   refine .ab (bg _ ?_)
   refine .sr fun _ cU=>?_
   refine .v (.fieldAddr dp rfl) (.v (.aa jx rfl ax rfl) ?_)
   refine .v (.aZ gf rfl (by exact a8)) ?_
   refine .as rfl (.nt cU ?_)
   refine .seq fun _ c7=>?_
   refine .sr fun _ dm=>?_
   refine .mv rfl (.v (.gtr rfl rfl) (.nt dm ?_))
   refine .aA rfl (fun cB=>?_) (fun cB=>?_)
   ·refine .sr fun _ dD=>?_
    refine .as rfl (.nt dD (.ret (.ae ?_)))
    refine .aG rfl rfl (fun w hw=>⟨_,_,?_,rfl,.of (hw.pk [])⟩)
    refine ⟨congrArg (Value.int .i64) ?_,rfl⟩;unfold nk;rw [if_neg (by omega),if_pos (by omega)]
   ·refine .skip ?_
    refine .ab (c7 _ ?_)
    refine .seq fun _ bJ=>?_
    refine .sr fun _ bP=>?_
    refine .v (.fieldAddr eQ rfl) (.v (.aa lC rfl ax rfl) ?_)
    refine .v (.aZ kQ rfl (by exact a8)) ?_
    refine .mv rfl (.v (.neq rfl rfl) (.mv rfl ?_))
    refine .bQ (g:=26) rfl (fun kV=>?_) (fun kV=>?_)
    ·have Bb:=kV
     try simp only [bs] at Bb
     refine .pass rfl rfl (kV) rfl ?_
     refine .pass rfl rfl (kV) rfl ?_
     refine .pass rfl rfl (kV) rfl ?_
     refine .v (.bw rfl (kV) rfl) (.mv rfl ?_)
     refine .pass rfl rfl rfl rfl ?_
     refine .pass rfl rfl rfl rfl ?_
     refine .pass rfl rfl rfl rfl ?_
     refine .pass rfl rfl rfl rfl ?_
     refine .v (.bw rfl (rfl) rfl) (.nt bP ?_)
     refine .cD rfl (rfl) ?_
     refine .sr fun _ ct=>?_
     refine .as rfl (.nt ct (.ret (.ae ?_)))
     refine .aG rfl rfl (fun w hw=>⟨_,_,?_,rfl,.of (hw.pk [])⟩)
     refine ⟨congrArg (Value.int .i64) ?_,rfl⟩;unfold nk;rw [if_neg (by omega),if_neg (by omega),if_pos (by omega)]
    ·have Bb:=kV
     try simp only [bs] at Bb
     refine .val _ (.fieldAddr kZ rfl) ⟨_,rfl,gB kV⟩ rfl ?_
     refine .val _ (.aa cQ rfl ax rfl) ⟨_,rfl,gB kV⟩ rfl ?_
     refine .val _ (.lss rfl rfl) ⟨_,rfl,gB kV⟩ rfl ?_
     refine .v (.cH rfl (kV) rfl) (.mv rfl ?_)
     refine .bQ (g:=31) rfl (fun gP=>?_) (fun gP=>?_)
     ·have xf:=gP
      try simp only [bs] at xf
      refine .pass rfl rfl (gP) rfl ?_
      refine .pass rfl rfl (gP) rfl ?_
      refine .pass rfl rfl (gP) rfl ?_
      refine .pass rfl rfl (gP) rfl ?_
      refine .v (.bw rfl (gP) rfl) (.nt bP ?_)
      refine .cD rfl (rfl) ?_
      refine .sr fun _ cK=>?_
      refine .as rfl (.nt cK (.ret (.ae ?_)))
      refine .aG rfl rfl (fun w hw=>⟨_,_,?_,rfl,.of (hw.pk [])⟩)
      refine ⟨congrArg (Value.int .i64) ?_,rfl⟩;unfold nk;rw [if_neg (by omega),if_neg (by omega),if_pos (by omega)]
     ·have xf:=gP
      try simp only [bs] at xf
      refine .val _ (.fieldAddr kZ rfl) ⟨_,rfl,gB gP⟩ rfl ?_
      refine .val _ (.aa cQ rfl ax rfl) ⟨_,rfl,gB gP⟩ rfl ?_
      refine .val _ (.move rfl) ⟨_,rfl,gB gP⟩ rfl ?_
      refine .val _ (.geq rfl rfl) ⟨_,rfl,gB gP⟩ rfl ?_
      refine .v (.cH rfl (gP) rfl) (.nt bP ?_)
      refine .aA rfl (fun cZ=>?_) (fun cZ=>?_)
      ·refine .sr fun _ cW=>?_
       refine .as rfl (.nt cW (.ret (.ae ?_)))
       refine .aG rfl rfl (fun w hw=>⟨_,_,?_,rfl,.of (hw.pk [])⟩)
       refine ⟨congrArg (Value.int .i64) ?_,rfl⟩;unfold nk;rw [if_neg (by omega),if_neg (by omega),if_pos (by omega)]
      ·refine .skip ?_
       refine .ab (bJ _ ?_)
       refine .seq fun _ c8=>?_
       refine .sr fun _ dw=>?_
       refine .v (.fieldAddr eQ rfl) (.v (.aa lC rfl ax rfl) ?_)
       refine .v (.aZ kQ rfl (by exact a8)) ?_
       refine .mv rfl (.nt dw (.block ?_))
       refine .bE (X:=Nat) [(1,_),(3,_),(38,_),(39,_)] (fun k=>[(40,.int .i64 (k:Int))]) (fun k=>[box jV 32 4 [.int .i64 d.L,.int .i64 d.s,vF,vN]]) (fun k=>k≤d.nx.length∧(d.nx.take k).any (k7 d.fin.length d.L)=false) (fun k=>d.nx.length - k) (0) aU ?_ ?_ ?_ ?_
       ·exact ⟨Nat.zero_le _,rfl⟩
       ·exact aU
       ·exact fun w hw=>hw
       ·intro k aV _ dE
        obtain ⟨hk,c6⟩:=aV
        have hrk:=fun Ho=>(DY k Ho).le
        refine .sr fun _ dR=>?_
        refine .v (.lss rfl rfl) (.nt dR ?_)
        refine .seq fun _ dO=>?_
        refine .aA rfl (fun iz=>?_) (fun iz=>?_)
        ·refine .skip ?_
         refine .ab (dO _ ?_)
         refine .seq fun _ eJ=>?_
         refine .block ?_
         refine .sr fun _ eY=>?_
         refine .v (.iN kQ rfl rfl (hr:=(by exact a8))) ?_
         refine .v (.jD hY rfl (by exact a8) (by omega)) ?_
         refine .as rfl (.nt eY ?_)
         refine .seq fun _ eI=>?_
         refine .sr fun _ fH=>?_
         refine .mv rfl ?_
         refine .v (.aZ bX rfl (by exact .arg (DY k (by omega)))) ?_
         refine .v (.fieldAddr kn rfl) (.v (.aa cQ rfl ax rfl) (.v (.neq rfl rfl) (.nt fH ?_)))
         refine .df rfl (fun gn=>?_) (fun gn=>?_)
         ·refine .sr fun _ gq=>?_
          refine .as rfl (.nt gq (.ret (.ae (.al (.ae (.ae (.al (.ae ?_))))))))
          refine .aG rfl rfl (fun w hw=>⟨_,_,?_,rfl,.of (hw.pk [])⟩)
          refine ⟨congrArg (Value.int .i64) ?_,rfl⟩;unfold nk;rw [if_neg (by omega),if_neg (by omega),if_neg (by omega),if_pos (tQ _ [] (by omega:k<d.nx.length) ?_)]
          unfold k7;rw [Bool.or_eq_true];exact .inl (decide_eq_true (by omega))
         ·refine .skip ?_
          refine .ab (eI _ ?_)
          refine .sr fun _ iT=>?_
          refine .mv rfl ?_
          refine .v (.aZ bX rfl (by exact .arg (DY k (by omega)))) ?_
          refine .mv rfl (.nt iT (.block ?_))
          refine .bE (X:=Nat) [(1,_),(3,_),(38,_),(39,_),(40,_),(49,_),(50,_)] (fun j=>[(51,.int .i64 (j:Int))]) (fun j=>[box jV 32 4 [.int .i64 d.L,.int .i64 d.s,vF,vN]]) (fun j=>j≤(d.nx.getD k []).length∧((d.nx.getD k []).take j).any (Ej d.fin.length)=false) (fun j=>(d.nx.getD k []).length - j) (0) aU ?_ ?_ ?_ ?_
          ·exact ⟨Nat.zero_le _,rfl⟩
          ·exact aU
          ·exact fun w hw=>hw
          ·intro j c6 _ iZ
           obtain ⟨hj,lO⟩:=c6
           refine .sr fun _ iS=>?_
           refine .v (.lss rfl rfl) (.nt iS ?_)
           refine .seq fun _ jy=>?_
           refine .aA rfl (fun qp=>?_) (fun qp=>?_)
           ·refine .skip ?_
            refine .ab (jy _ ?_)
            refine .seq fun _ kf=>?_
            refine .block ?_
            refine .sr fun _ kB=>?_
            refine .v (.iN bX rfl rfl (hr:=(by exact .arg (DY k (by omega))))) ?_
            refine .v (.ff cQ rfl (by exact .arg (DY k (by omega))) (by omega)) ?_
            refine .as rfl (.nt kB ?_)
            refine .sr fun _ ke=>?_
            refine .mv rfl (.v (.lss rfl rfl) (.mv rfl ?_))
            refine .bQ (g:=57) rfl (fun jh=>?_) (fun jh=>?_)
            ·have xl:=jh
             try simp only [bs] at xl
             refine .pass rfl rfl (jh) rfl ?_
             refine .pass rfl rfl (jh) rfl ?_
             refine .pass rfl rfl (jh) rfl ?_
             refine .v (.bw rfl (jh) rfl) (.nt ke ?_)
             refine .cD rfl (rfl) ?_
             refine .sr fun _ nj=>?_
             refine .as rfl (.nt nj (.ret (.al (.ae (.ae (.al (.al (.ae (.ae (.al (.ae ?_)))))))))))
             refine .aG rfl rfl (fun w hw=>⟨_,_,?_,rfl,.of (hw.pk [])⟩)
             refine ⟨congrArg (Value.int .i64) ?_,rfl⟩;unfold nk;rw [if_neg (by omega),if_neg (by omega),if_neg (by omega),if_pos (tQ _ [] (by omega:k<d.nx.length) ?_)]
             unfold k7;rw [Bool.or_eq_true];refine .inr (tQ _ 0 (by omega:j<(d.nx.getD k []).length) ?_);unfold Ej;rw [Bool.or_eq_true,decide_eq_true_eq,decide_eq_true_eq];omega
            ·have xl:=jh
             try simp only [bs] at xl
             refine .val _ (.move rfl) ⟨_,rfl,gB jh⟩ rfl ?_
             refine .val _ (.move rfl) ⟨_,rfl,gB jh⟩ rfl ?_
             refine .val _ (.geq rfl rfl) ⟨_,rfl,gB jh⟩ rfl ?_
             refine .v (.cH rfl (jh) rfl) (.nt ke ?_)
             refine .aA rfl (fun ka=>?_) (fun ka=>?_)
             ·refine .sr fun _ lE=>?_
              refine .as rfl (.nt lE (.ret (.al (.ae (.ae (.al (.al (.ae (.ae (.al (.ae ?_)))))))))))
              refine .aG rfl rfl (fun w hw=>⟨_,_,?_,rfl,.of (hw.pk [])⟩)
              refine ⟨congrArg (Value.int .i64) ?_,rfl⟩;unfold nk;rw [if_neg (by omega),if_neg (by omega),if_neg (by omega),if_pos (tQ _ [] (by omega:k<d.nx.length) ?_)]
              unfold k7;rw [Bool.or_eq_true];refine .inr (tQ _ 0 (by omega:j<(d.nx.getD k []).length) ?_);unfold Ej;rw [Bool.or_eq_true,decide_eq_true_eq,decide_eq_true_eq];omega
             ·refine .skip (.ag ?_)
              refine .ab (kf _ ?_)
              refine .region ?_
              refine .v (.add rfl rfl (by omega)) ?_
              refine .mv rfl (.nil ?_)
              refine .ab (iZ _ _ (j+1) ⟨by omega,qG _ 0 (by omega) lO (by unfold Ej;rw [Bool.or_eq_false_iff,decide_eq_false_iff_not,decide_eq_false_iff_not];omega)⟩ (by omega) (aU) (fun w hw=>hw))
           ·refine .exit (.ai (.ai (.ar (.ag ?_))))
            refine .ab (eJ _ ?_)
            refine .region ?_
            refine .v (.add rfl rfl (by omega)) ?_
            refine .mv rfl (.nil ?_)
            refine .ab (dE _ _ (k+1) ⟨by omega,qG _ [] (by omega) c6 (by unfold k7;rw [show j=(d.nx.getD k []).length by omega,List.take_length] at lO;rw [lO,Bool.or_false];exact decide_eq_false (by omega))⟩ (by omega) (aU) (fun w hw=>hw))
        ·refine .exit (.ai (.ai (.ar ?_)))
         refine .ab (c8 _ ?_)
         refine .sr fun _ oG=>?_
         refine .as rfl (.nt oG (.ret ?_))
         refine .aG rfl rfl (fun w hw=>⟨_,_,?_,rfl,.of (hw.pk [])⟩)
         refine ⟨congrArg (Value.int .i64) ?_,rfl⟩;unfold nk;rw [if_neg (by omega),if_neg (by omega),if_neg (by omega),if_neg];rw [show k=d.nx.length by omega,List.take_length] at c6;rw [c6];exact Bool.false_ne_true
end Go.Proofs.YtbibnpdnmmgacaaGreatDoor
namespace Go.Proofs.YtbibnpdnmmgacaaGreatDoor
open Go.Sx Go.RowKit
theorem K8 (w:World) (x:Int) (hx:0≤x):aK Tryz.prog 113 [.int .i64 x] w (fun r o=>r=uv (below x)∧o=[]):=by
 refine aC Tryz.func113 rfl (aT rfl) ?_
 refine .sr fun _ bl=>?_
 refine .as rfl (.nt bl ?_)
 refine .sr fun _ bg=>?_
 refine .mv rfl ?_
 refine .v (.D8 (a:=1) rfl rfl (by omega)) ?_
 refine .v (.Je (b:=1) rfl rfl) (.as rfl (.nt bg (.ret ?_)))
 refine .aG rfl rfl (fun w hw=>⟨_,_,?_,rfl,.of (hw.pk [])⟩)
 exact ⟨rfl,rfl⟩
theorem CL (w:World) (x:Int) (hx:0≤x):aK Tryz.prog 115 [.int .i64 x] w (fun r o=>r=uv (below x)∧o=[]):=by
 refine aC Tryz.func115 rfl (aT rfl) ?_
 refine .sr fun _ bl=>?_
 refine .as rfl (.nt bl ?_)
 refine .sr fun _ bg=>?_
 refine .mv rfl ?_
 refine .v (.D8 (a:=1) rfl rfl (by omega)) ?_
 refine .v (.Je (b:=1) rfl rfl) (.as rfl (.nt bg (.ret ?_)))
 refine .aG rfl rfl (fun w hw=>⟨_,_,?_,rfl,.of (hw.pk [])⟩)
 exact ⟨rfl,rfl⟩
theorem Gr (w:World) (x:Int):aK Tryz.prog 165 [.int .i64 x] w (fun r o=>r = .bool false∧o=[]):=by
 refine aC Tryz.func165 rfl (aT rfl) ?_
 refine .sr fun _ bl=>?_
 refine .as rfl (.nt bl ?_)
 refine .sr fun _ bg=>?_
 refine .mv rfl (.mv rfl (.v (.neq rfl rfl) (.as rfl (.nt bg (.ret ?_)))))
 refine .aG rfl rfl (fun w hw=>⟨_,_,?_,rfl,.of (hw.pk [])⟩)
 refine ⟨congrArg Value.bool ?_,rfl⟩
 simp
theorem wE (w:World) (x y:Int):aK Tryz.prog 112 [.int .i64 x,.int .i64 y] w (fun r o=>r = .int .i64 (vw x y)∧o=[]):=by
 refine aC Tryz.func112 rfl (aT rfl) ?_
 refine .sr fun _ bl=>?_
 refine .as rfl (.nt bl ?_)
 refine .sr fun _ bg=>?_
 refine .mv rfl ?_
 refine .call PQ rfl (fun w hw=>Gr w x) trivial rfl ?_
 rintro r o ⟨rfl,rfl⟩
 refine .as rfl (.nt bg ?_)
 refine .sr fun _ bW=>?_
 refine .mv rfl ?_
 refine .call PQ rfl (fun w hw=>Gr w y) trivial rfl ?_
 rintro r o ⟨rfl,rfl⟩
 refine .as rfl (.nt bW ?_)
 refine .seq fun _ cr=>?_
 refine .sr fun _ cJ=>?_
 refine .mv rfl (.nt cJ ?_)
 refine .dH rfl (rfl) ?_
 refine .skip ?_
 refine .ab (cr _ ?_)
 refine .seq fun _ cU=>?_
 refine .sr fun _ c7=>?_
 refine .mv rfl (.nt c7 ?_)
 refine .dH rfl (rfl) ?_
 refine .skip ?_
 refine .ab (cU _ ?_)
 refine .seq fun _ dm=>?_
 refine .sr fun _ dD=>?_
 refine .mv rfl (.mv rfl (.v (.lss rfl rfl) (.nt dD ?_)))
 refine .aA rfl (fun iz=>?_) (fun iz=>?_)
 ·refine .sr fun _ bJ=>?_
  refine .as rfl (.nt bJ (.ret (.ae ?_)))
  refine .aG rfl rfl (fun w hw=>⟨_,_,?_,rfl,.of (hw.pk [])⟩)
  refine ⟨congrArg (Value.int .i64) ?_,rfl⟩
  unfold vw
  (rw [if_pos (by omega)];done)
 ·refine .skip ?_
  refine .ab (dm _ ?_)
  refine .seq fun _ bP=>?_
  refine .sr fun _ ct=>?_
  refine .mv rfl (.mv rfl (.v (.gtr rfl rfl) (.nt ct ?_)))
  refine .aA rfl (fun gn=>?_) (fun gn=>?_)
  ·refine .sr fun _ cK=>?_
   refine .as rfl (.nt cK (.ret (.ae ?_)))
   refine .aG rfl rfl (fun w hw=>⟨_,_,?_,rfl,.of (hw.pk [])⟩)
   refine ⟨congrArg (Value.int .i64) ?_,rfl⟩
   unfold vw
   (rw [if_neg (by omega),if_pos (by omega)];done)
  ·refine .skip ?_
   refine .ab (bP _ ?_)
   refine .sr fun _ cW=>?_
   refine .as rfl (.nt cW (.ret ?_))
   refine .aG rfl rfl (fun w hw=>⟨_,_,?_,rfl,.of (hw.pk [])⟩)
   refine ⟨congrArg (Value.int .i64) ?_,rfl⟩
   unfold vw
   (rw [if_neg (by omega),if_neg (by omega)];done)
theorem YB (w:World) (v:Value) (xs:List Int) (h:BX w v xs):aK Tryz.prog 111 [v] w (fun r o=>r = .int .i64 (DO xs)∧o=[]):=by
 unfold BX at h
 have hb:=Rd.le h
 refine aC Tryz.func111 rfl (aT rfl) ?_
 refine .sr fun _ bl=>?_
 refine .as rfl (.nt bl ?_)
 refine .sr fun _ bg=>?_
 refine .as rfl (.nt bg ?_)
 refine .seq fun _ bW=>?_
 refine .sr fun _ cr=>?_
 refine .mv rfl (.v (.aZ bX rfl a8) (.mv rfl (.nt cr (.block ?_))))
 refine .bE (X:=Nat) [(3,_),(6,_),(7,_)] (fun k=>[(8,.int .i64 (k:Int))]) (fun k=>[]) (fun k=>k≤xs.length∧DO xs=DO (xs.drop k)) (fun k=>xs.length - k) (0) aU ?_ ?_ ?_ ?_
 ·exact ⟨Nat.zero_le _,rfl⟩
 ·exact aU
 ·exact fun w hw=>hw
 ·intro k aV _ cJ
  refine .sr fun _ cU=>?_
  refine .v (.lss rfl rfl) (.nt cU ?_)
  refine .seq fun _ c7=>?_
  refine .aA rfl (fun bx=>?_) (fun bx=>?_)
  ·refine .skip ?_
   refine .ab (c7 _ ?_)
   refine .seq fun _ dm=>?_
   refine .block ?_
   refine .sr fun _ dD=>?_
   refine .v (.iN bX rfl rfl) ?_
   refine .v (.ff cQ rfl a8 (by omega)) ?_
   refine .as rfl (.nt dD ?_)
   refine .sr fun _ bJ=>?_
   refine .mv rfl (.mv rfl (.v (.neq rfl rfl) (.nt bJ ?_)))
   refine .df rfl (fun cB=>?_) (fun cB=>?_)
   ·refine .sr fun _ bP=>?_
    refine .mv rfl (.as rfl (.nt bP (.ret (.al (.ae (.ae (.al (.ae ?_))))))))
    refine .aG rfl rfl (fun w hw=>⟨_,_,?_,rfl,.of (hw.pk [])⟩)
    exact ⟨congrArg (Value.int .i64) (aV.2.trans (Ob (by omega) (by assumption))).symm,rfl⟩
   ·refine .skip (.ag ?_)
    refine .ab (dm _ ?_)
    refine .region ?_
    refine .v (.add rfl rfl (by omega)) ?_
    refine .mv rfl (.nil ?_)
    refine .ab (cJ _ _ (k+1) ⟨by omega,aV.2.trans (Lw (by omega) (by assumption))⟩ (by omega) (aU) (fun w hw=>hw))
  ·refine .exit (.ai (.ai (.ar ?_)))
   refine .ab (bW _ ?_)
   refine .sr fun _ ct=>?_
   refine .mv rfl (.as rfl (.nt ct (.ret ?_)))
   refine .aG rfl rfl (fun w hw=>⟨_,_,?_,rfl,.of (hw.pk [])⟩)
   exact ⟨congrArg (Value.int .i64) (aV.2.trans (Oc (by omega))).symm,rfl⟩
set_option maxHeartbeats 1000000 in
theorem Kn (w:World) (a b:iV):aK Tryz.prog 58 [ev a,ev b] w (fun r o=>r = .int .i64 (tC a b)∧o=[]):=by
 refine aC Tryz.func58 rfl (aT rfl) ?_
 refine .sr fun _ bl=>?_
 refine .cS (E:=98) (cs:=BW a) rfl rfl rfl trivial rfl (fun eu=>?_)
 refine .cS (E:=98) (cs:=BW b) rfl rfl rfl trivial rfl (fun ga=>?_)
 refine .as rfl (.nt bl ?_)
 refine .seq fun _ bg=>?_
 refine .oM (X:=Unit) [] (fun z=>[(4,.int .i64 (tC a b))]) (fun z=>[box eu 98 3 (BW a),box ga 98 3 (BW b)]) (fun z=>True) aU (fun _ hJ=>?_) (fun z hg=>?_)
 ·try (conv=>enter [2,2];simp only [cE])
  refine .held 18 mixed ?_
  refine .F 0 17 18 1 rfl (.fieldAddr wM rfl) trivial ?_
  refine .F 1 16 18 3 rfl (.aa cQ rfl ax rfl) trivial ?_
  refine .F 2 15 18 7 rfl (.fieldAddr wM rfl) trivial ?_
  refine .F 3 14 18 15 rfl (.aa cQ rfl ax rfl) trivial ?_
  refine .F 5 13 18 47 rfl (.fieldAddr wL rfl) trivial ?_
  refine .F 6 12 18 111 rfl (.aa cQ rfl ax rfl) trivial ?_
  refine .F 7 11 18 239 rfl (.fieldAddr wL rfl) trivial ?_
  refine .F 8 10 18 495 rfl (.aa cQ rfl ax rfl) trivial ?_
  refine .F 10 9 18 1519 rfl (.fieldAddr wK rfl) trivial ?_
  refine .F 11 8 18 3567 rfl (.aa cQ rfl ax rfl) trivial ?_
  refine .F 12 7 18 7663 rfl (.fieldAddr wK rfl) trivial ?_
  refine .F 13 6 18 15855 rfl (.aa cQ rfl ax rfl) trivial ?_
  refine .O 4 5 18 15871 rfl ?_
  refine .call Cv rfl (fun w hw=>wE w a.1 b.1) trivial rfl ?_
  rintro r o ⟨rfl,rfl⟩
  refine .nil ?_
  try (conv=>enter [2,2];simp only [cE])
  refine ay.back Go.Sx.hle ?_
  refine .O 9 4 18 16383 rfl ?_
  refine .call Cv rfl (fun w hw=>wE w a.2.1 b.2.1) trivial rfl ?_
  rintro r o ⟨rfl,rfl⟩
  refine .nil ?_
  try (conv=>enter [2,2];simp only [cE])
  refine ay.back Go.Sx.hle ?_
  refine .O 14 3 18 32767 rfl ?_
  refine .call Cv rfl (fun w hw=>wE w a.2.2 b.2.2) trivial rfl ?_
  rintro r o ⟨rfl,rfl⟩
  refine .nil ?_
  try (conv=>enter [2,2];simp only [cE])
  refine ay.back Go.Sx.hle ?_
  refine .O 15 2 18 65535 rfl ?_
  refine .lit (xs:=[.tmp 9,.tmp 14,.tmp 19]) bX uL rfl rfl rfl (by intro a ha;simp at ha;rcases ha with rfl | rfl | rfl <;> rfl) (by decide) (by decide) trivial rfl (fun lv=>?_)
  refine .nil ?_
  try (conv=>enter [2,2];simp only [cE])
  refine ay.back Go.Sx.hle ?_
  refine .O 16 1 18 131071 rfl ?_
  refine .call We rfl (fun w hw=>YB w lv [vw a.1 b.1,vw a.2.1 b.2.1,vw a.2.2 b.2.2] (BX.own 2 hw rfl)) trivial rfl ?_
  rintro r o ⟨rfl,rfl⟩
  refine .nil ?_
  try (conv=>enter [2,2];simp only [cE])
  refine ay.back Go.Sx.hle ?_
  refine .F 17 0 18 262143 rfl (.assign rfl) trivial ?_
  refine .done cx ?_
  exact hJ _ _ (()) trivial (aU) (fun w hw=>by first | exact hw.dG [0,1] (by decide) qn)
 ·skip
  refine .ab (bg _ ?_)
  refine .ret ?_
  refine .aG rfl rfl (fun w hw=>⟨_,_,?_,rfl,.of (hw.pk [])⟩)
  exact ⟨rfl,rfl⟩
end Go.Proofs.YtbibnpdnmmgacaaGreatDoor
