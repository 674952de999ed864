import Derived.Test.YtbibnpdnmmgacaaGreatDoorKZl
import Derived.Test.YtbibnpdnmmgacaaGreatDoorKZi
import Derived.Test.YtbibnpdnmmgacaaGreatDoorKZk
import Derived.Test.YtbibnpdnmmgacaaGreatDoorKZc
set_option linter.unusedVariables false
set_option linter.unusedSimpArgs false
set_option maxRecDepth 100000
namespace Go.Proofs.YtbibnpdnmmgacaaGreatDoor
open Go.Sx Go.RowKit
set_option maxHeartbeats 800000 in
theorem U4 (a:Int) (nm:Bool) (e:Ex) (w:World) (F:Nat→Prop) (B:Bs) (l:List cw) (hB:gI B w F) (hA:(aI B l).holds w F) (s:Value) (hm:cw.deep s e.kids∈l) (j:Ex) (hj:(if nm then some e else kr e)=some j):ck Tryz.prog 178 [.agg #[.int .i64 a,.bool nm],.agg #[.int .i64 e.op,.int .i64 e.lt,s]] w F (fun r A o=>∃ sr l',r = .agg #[.int .i64 j.op,.int .i64 j.lt,sr]∧aB sr∧A=aI B l'∧(∀ x∈l,x∈l')∧cw.deep sr j.kids∈l'∧o=[]):=by
 refine cu Tryz.func178 rfl (aT rfl) hA ?_
 refine .LX 0 rfl hm (fun Xa=>?_)
 refine .sr fun _ bl=>?_
 refine .cS (E:=144) (cs:=[.int .i64 a,.bool nm]) rfl rfl rfl trivial rfl (fun eu=>?_)
 refine .cS (E:=24) (cs:=[.int .i64 e.op,.int .i64 e.lt,s]) rfl rfl rfl trivial rfl (fun ga=>?_)
 refine .alloc cC rfl rfl trivial rfl (fun iD=>?_)
 refine .nt bl ?_
 refine .seq fun _ bg=>?_
 refine .sr fun _ bW=>?_
 refine .v (.fieldAddr OH rfl) (.v (.aa vk rfl ax rfl) (.nt bW ?_))
 refine .cond rfl (fun bx=>?_) (fun bx=>?_)
 ·try simp only [bs] at bx
  rw [if_pos bx] at hj
  cases hj
  refine .sr fun _ cr=>?_
  refine .v (.ak aM rfl ax rfl rfl) ?_
  refine .ah 3 (us:=[.int .i64 e.op,.int .i64 e.lt,s]) (cs':=[.int .i64 e.op,.int .i64 e.lt,s]) rfl cy rfl rfl rfl rfl aJ (aT rfl) rfl trivial ?_
  refine .nt cr (.ret (.ae ?_))
  refine .cO [.cell 4 24] rfl (.cons (.cell aM rfl ax rfl rfl) (.nil)) (fun w hw=>⟨_,_,_,?_,rfl,.of (hw.pk [0])⟩)
  exact ⟨s,l,rfl,Xa,rfl,fun x hx=>hx,hm,rfl⟩
 ·try simp only [bs] at bx
  rw [if_neg (by rw [bx];decide)] at hj
  refine .skip ?_
  refine .ab (bg _ ?_)
  refine .sr fun _ cJ=>?_
  refine .v (.ak aM rfl ax rfl rfl) ?_
  refine .aY 0 rfl J6 rfl (fun w Fs hw hh bI bc=>Kh e w (Fs 0) B l (hB.later bI bc 0) (hh.at_ 0 _ rfl) s hm j hj) trivial rfl ?_
  rintro r A o ⟨sr,l2,rfl,qc,rfl,dX,gG,rfl⟩
  refine .ah 3 (us:=[.int .i64 j.op,.int .i64 j.lt,sr]) (cs':=[.int .i64 j.op,.int .i64 j.lt,sr]) rfl cy rfl rfl rfl rfl aJ (aT rfl) rfl trivial ?_
  refine .nt cJ (.ret ?_)
  refine .cO [.cell 4 24] rfl (.cons (.cell aM rfl ax rfl rfl) (.nil)) (fun w hw=>⟨_,_,_,?_,rfl,.of (hw.pk [0])⟩)
  exact ⟨sr,l2,rfl,qc,rfl,dX,gG,rfl⟩
set_option maxHeartbeats 4000000 in
theorem H8 (a:Int) (nm:Bool) (e:Ex) (ho:e.op=5) (ih:∀ i,i<e.kids.length→JJ a nm (e.kids.getD i default)) (w:World) (F:Nat→Prop) (B:Bs) (l:List cw) (hB:gI B w F) (hA:(aI B l).holds w F) (s:Value) (hm:cw.deep s e.kids∈l) (d:Dv) (hd:eM a nm e=some d):ck Tryz.prog 154 [.agg #[.int .i64 a,.bool nm],.agg #[.int .i64 e.op,.int .i64 e.lt,s]] w F (fun r A o=>∃ sb sf l',r = .agg #[.int .i64 d.1.op,.int .i64 d.1.lt,sb,.int .i64 d.2.1.op,.int .i64 d.2.1.lt,sf,.bool d.2.2]∧aB sb∧aB sf∧A=aI B l'∧(∀ x∈l,x∈l')∧cw.deep sb d.1.kids∈l'∧cw.deep sf d.2.1.kids∈l'∧o=[]):=by
 refine cu Tryz.func154 rfl (aT rfl) hA ?_
 refine .rQ 0 rfl hm fun l1 ss h2=>?_
 have MM:=h2.ME
 obtain ⟨z8,BY,SV,N,P,PG,hP,WY,T5,h3⟩:=ID hd ho
 obtain ⟨HC,ZW⟩:=pY PG
 simp only at HC ZW
 obtain ⟨WU,hPk⟩:=zf hP
 refine .sr fun _ bl=>?_
 refine .cS (E:=144) (cs:=[.int .i64 a,.bool nm]) rfl rfl rfl trivial rfl (fun eu=>?_)
 refine .cS (E:=24) (cs:=[.int .i64 e.op,.int .i64 e.lt,s]) rfl rfl rfl trivial rfl (fun ga=>?_)
 refine .alloc qx rfl rfl trivial rfl (fun iD=>?_)
 refine .nt bl ?_
 refine .sr fun _ bg=>?_
 refine .as rfl (.nt bg ?_)
 refine .sr fun _ bW=>?_
 refine .v (.fieldAddr bM rfl) (.v (.aa du rfl ax rfl) ?_)
 refine .v (.aZ aR rfl (by exact cR.tree hB 0 rfl h2.rw)) ?_
 refine .uP aR cC rfl rfl (by omega) (by omega) trivial rfl (fun iQ=>?_)
 refine .as rfl (.nt bW ?_)
 refine .sr fun _ cr=>?_
 refine .as rfl (.nt cr ?_)
 refine .seq fun _ cJ=>?_
 refine .sr fun _ cU=>?_
 refine .v (.fieldAddr bM rfl) (.v (.aa du rfl ax rfl) ?_)
 refine .v (.aZ aR rfl (by exact cR.tree hB 0 rfl h2.rw)) ?_
 refine .mv rfl (.nt cU (.block ?_))
 refine .bE (X:=Value × List Value × List Value × Bool × List cw) [(2,_),(4,_),(6,_),(20,_),(21,_)] (fun x=>[(5,x.1),(7,.bool x.2.2.2.1),(22,.int .i64 (x.2.2.1.length:Int))]) (fun x=>[aI B x.2.2.2.2,box eu 144 2 [.int .i64 a,.bool nm],box ga 24 3 [.int .i64 e.op,.int .i64 e.lt,s],box iD 142 7 [.int .i64 0,.int .i64 0,.slice none 0 0,.int .i64 0,.int .i64 0,.slice none 0 0,.bool false],row iQ 24 3 e.kids.length (dc (fR e.kids.length SV x.2.2.1.length) (dS e.kids.length x.2.2.1)),row x.1 24 3 x.2.1.length (dc (BY.take x.2.1.length) x.2.1)]) (fun x=>vx a nm e.kids BY SV N x.2.2.2.1 x.2.2.1.length x.2.1.length∧aB x.1∧(∀ y∈l1,y∈x.2.2.2.2)∧kJ x.2.2.2.2 BY x.2.1∧kJ x.2.2.2.2 SV x.2.2.1) (fun x=>e.kids.length - x.2.2.1.length) ((.slice none 0 0,[],[],true,l1)) aU ?_ ?_ ?_ ?_
 ·exact ⟨vx.start PG,cq,fun y hy=>hy,kJ.nil _ _,kJ.nil _ _⟩
 ·exact aU
 ·exact fun w hw=>by obtain ⟨e1,e2⟩:=kM e.kids.length SV;simp only [List.length_nil];rw [e1,e2];exact hw.ghost 24 3
 ·intro x aV _ c7
  refine .sr fun _ dm=>?_
  refine .v (.lss rfl rfl) (.nt dm ?_)
  refine .seq fun _ dD=>?_
  refine .aA rfl (fun bx=>?_) (fun bx=>?_)
  ·have eo:x.2.2.1.length<e.kids.length:=by omega
   have sk:=h2.qd x.2.2.1.length eo
   have abe:=aV.1.ml
   refine .skip ?_
   refine .ab (dD _ ?_)
   refine .seq fun _ bJ=>?_
   refine .block ?_
   refine .sr fun _ bP=>?_
   refine .mv rfl ?_
   refine .v (.iN aR rfl rfl (hr:=(by exact cR.tree hB 0 rfl (aV.2.2.1 _ h2.rw)))) ?_
   refine .v (.da aM rfl (by exact cR.tree hB 0 rfl (aV.2.2.1 _ h2.rw)) h2.len rfl (by omega)) ?_
   refine .alloc cC rfl rfl trivial rfl (fun tn=>?_)
   refine .as rfl ?_
   refine .ah 6 (us:=[.int .i64 (e.kids.getD x.2.2.1.length default).op,.int .i64 (e.kids.getD x.2.2.1.length default).lt,ss.getD x.2.2.1.length undef]) (cs':=[.int .i64 (e.kids.getD x.2.2.1.length default).op,.int .i64 (e.kids.getD x.2.2.1.length default).lt,ss.getD x.2.2.1.length undef]) rfl cy rfl rfl rfl rfl aJ (aT rfl) rfl trivial ?_
   refine .nt bP ?_
   refine .seq fun _ ct=>?_
   refine .sr fun _ cK=>?_
   refine .mv rfl (.v (.not rfl) (.nt cK ?_))
   refine .eW rfl (fun cB=>?_) (fun cB=>?_)
   ·have Aa:=aV.1
    rw [cB] at Aa
    obtain ⟨hsm,JW⟩:=Aa.no eo
    refine .sr fun _ cW=>?_
    refine .mv rfl (.mv rfl (.v (.ak uS rfl ax rfl rfl) (.v (.ak aM rfl ax rfl rfl) ?_)))
    refine .aY 0 rfl VT rfl (fun w Fs hw hh bI bc=>U4 a nm _ w (Fs 0) B x.2.2.2.2 (hB.later bI bc 0) (hh.at_ 0 _ rfl) _ (aV.2.2.1 _ (h2.th _ eo)) _ hsm) trivial rfl ?_
    rintro r A o ⟨sr,l2,rfl,qc,rfl,dX,gG,rfl⟩
    refine .v (.iN aR rfl rfl (hr:=(by exact a8))) ?_
    refine .fV 4 rfl cy rfl rfl rfl rfl (aw rfl (aw rfl (aw (aB.one qc) bY))) (by omega) (cs':=dc (fR e.kids.length SV (x.2.2.1.length+1)) (dS e.kids.length (x.2.2.1++[sr]))) (j5 HC eo sr) trivial ?_
    refine .nt cW (.exit (.ai (.ar ?_)))
    refine .ab (bJ _ ?_)
    refine .region ?_
    refine .v (.add rfl rfl (by omega)) ?_
    refine .mv rfl (.nil ?_)
    refine .ab (c7 _ _ ((x.1,x.2.1,x.2.2.1++[sr],false,l2)) ⟨by simpa using JW,aV.2.1,fun y hy=>dX _ (aV.2.2.1 y hy),aV.2.2.2.1.later dX,(aV.2.2.2.2.later dX).snoc gG qc⟩ (by simp;omega) (.cons (rfl) (.cons (gB cB) (.cons (s9 rfl (by simp)) (aU)))) (fun w hw=>by have h:=hw.pk [0,1,2,3,4,5];simpa using h))
   ·have Aa:=aV.1
    rw [cB] at Aa
    obtain ⟨d1,TZ,Fz,hBm,hSk,JW⟩:=Aa.yes eo
    refine .skip ?_
    refine .ab (ct _ ?_)
    refine .sr fun _ c8=>?_
    refine .v (.ak uS rfl ax rfl rfl) (.v (.ak aM rfl ax rfl rfl) ?_)
    refine .aY 0 rfl Cy rfl (fun w Fs hw hh bI bc=>ih x.2.2.1.length eo w (Fs 0) B x.2.2.2.2 (hB.later bI bc 0) (hh.at_ 0 _ rfl) _ (aV.2.2.1 _ (h2.th _ eo)) d1 TZ) trivial rfl ?_
    rintro r A o ⟨sb,sf,l2,rfl,yn,BO,rfl,dX,BV,BU,rfl⟩
    refine .alloc qx rfl rfl trivial rfl (fun wi=>?_)
    refine .ah 7 (us:=[.int .i64 d1.1.op,.int .i64 d1.1.lt,sb,.int .i64 d1.2.1.op,.int .i64 d1.2.1.lt,sf,.bool d1.2.2]) (cs':=[.int .i64 d1.1.op,.int .i64 d1.1.lt,sb,.int .i64 d1.2.1.op,.int .i64 d1.2.1.lt,sf,.bool d1.2.2]) rfl iq rfl rfl rfl rfl aJ (aT rfl) rfl trivial ?_
    refine .nt c8 ?_
    try (conv=>enter [2,2];simp only [cE])
    refine .jG [box wi 142 7 [.int .i64 d1.1.op,.int .i64 d1.1.lt,sb,.int .i64 d1.2.1.op,.int .i64 d1.2.1.lt,sf,.bool d1.2.2],Hx iQ 24 3 e.kids.length] 15 (fun _ hw=>by have h:=HW.ma 1 rfl (hw.pk [7,4]);exact h) mixed ?_
    refine .FS (fun _ hw=>by have h:=HW.ma 1 rfl (hw.pk [7,4]);exact h) 0 14 15 1 rfl (.move rfl) trivial ?_
    refine .FS (fun _ hw=>by have h:=HW.ma 1 rfl (hw.pk [7,4]);exact h) 1 13 15 3 rfl (.move rfl) trivial ?_
    refine .FS (fun _ hw=>by have h:=HW.ma 1 rfl (hw.pk [7,4]);exact h) 2 12 15 7 rfl (.move rfl) trivial ?_
    refine .FS (fun _ hw=>by have h:=HW.ma 1 rfl (hw.pk [7,4]);exact h) 3 11 15 15 rfl (.fieldAddr r9 rfl) trivial ?_
    refine .FS (fun _ hw=>by have h:=HW.ma 1 rfl (hw.pk [7,4]);exact h) 4 10 15 31 rfl (.ak aM rfl ax rfl rfl) trivial ?_
    refine .FS (fun _ hw=>by have h:=HW.ma 1 rfl (hw.pk [7,4]);exact h) 7 9 15 159 rfl (.fieldAddr Bu rfl) trivial ?_
    refine .FS (fun _ hw=>by have h:=HW.ma 1 rfl (hw.pk [7,4]);exact h) 8 8 15 415 rfl (.ak aM rfl ax rfl rfl) trivial ?_
    refine .FS (fun _ hw=>by have h:=HW.ma 1 rfl (hw.pk [7,4]);exact h) 9 7 15 927 rfl (.fieldAddr r8 rfl) trivial ?_
    refine .FS (fun _ hw=>by have h:=HW.ma 1 rfl (hw.pk [7,4]);exact h) 10 6 15 1951 rfl (.aa vk rfl ax rfl) trivial ?_
    refine .O 5 5 15 1983 rfl ?_
    refine .lit (xs:=[.tmp 42]) aR cC rfl rfl rfl (by simp [Value.cells]) (by decide) (by decide) trivial rfl (fun lv=>?_)
    refine .nil ?_
    try (conv=>enter [2,2];simp only [cE])
    refine ay.bo (fun _ hw=>by have h:=HW.ma 1 rfl (hw.pk [7,4]);exact h) ?_
    refine .O 6 4 15 2047 rfl ?_
    refine .gA 5 rfl aR cC rfl (by decide) rfl rfl rfl (by exact a8) (aw rfl (aw rfl (aw (aB.one yn) bY))) (by omega) (by omega) trivial rfl (fun aaD=>?_)
    refine .shape 5 rfl (fun Wq=>?_)
    refine .nil ?_
    try (conv=>enter [2,2];simp only [cE])
    refine ay.bo (fun _ hw=>by have h:=HW.ma 1 rfl (hw.pk [7,4]);exact h) ?_
    refine .FS (fun _ hw=>by have h:=HW.ma 1 rfl (hw.pk [7,4]);exact h) 11 3 15 4095 rfl (.assign rfl) trivial ?_
    refine .FS (fun _ hw=>by have h:=HW.ma 1 rfl (hw.pk [7,4]);exact h) 12 2 15 8191 rfl (.Q5 1 rfl aR rfl rfl (by decide) (by omega)) trivial ?_
    refine .O 13 1 15 16383 rfl ?_
    refine .fV 4 rfl cy rfl rfl rfl rfl (aw rfl (aw rfl (aw (aB.one BO) bY))) (by omega) (cs':=dc (fR e.kids.length SV (x.2.2.1.length+1)) (dS e.kids.length (x.2.2.1++[sf]))) ((by have h:=j5 HC eo sf;rw [hSk] at h;exact h)) trivial ?_
    refine .nil ?_
    try (conv=>enter [2,2];simp only [cE])
    refine ay.bo (fun _ hw=>by have h:=HW.ma 1 rfl (hw.pk [7,4]);exact h) ?_
    refine .FS (fun _ hw=>by have h:=HW.ma 1 rfl (hw.pk [7,4]);exact h) 14 0 15 32767 rfl (.assign rfl) trivial ?_
    refine .done cx ?_
    refine .ag ?_
    refine .ab (bJ _ ?_)
    refine .region ?_
    refine .v (.add rfl rfl (by omega)) ?_
    refine .mv rfl (.nil ?_)
    refine .ab (c7 _ _ ((aaD,x.2.1++[sb],x.2.2.1++[sf],d1.2.2,l2)) ⟨by simpa using JW,Wq,fun y hy=>dX _ (aV.2.2.1 y hy),(aV.2.2.2.1.later dX).snoc (by rw [hBm];exact BV) yn,(aV.2.2.2.2.later dX).snoc (by rw [hSk];exact BU) BO⟩ (by simp;omega) (.cons (rfl) (.cons (rfl) (.cons (s9 rfl (by simp)) (aU)))) (fun w hw=>by have h:=hw.pk [0,1,2,3,4,5];dsimp only;rw [List.length_append,List.length_append,List.length_singleton,List.length_singleton,aO default BY x.2.1.length Fz,← wQ _ _ _ _ (by simp;omega),hBm];exact h))
  ·have WL:x.2.2.1.length=e.kids.length:=by have:=aV.1.kl;omega
   have hcf:=aV.1
   rw [WL] at hcf
   obtain ⟨XI,hnN⟩:=hcf.fin
   refine .close' 0 5 BY x.2.1 (by decide) rfl rfl XI (by rw [XI,List.take_length]) XI (fun k hk=>aV.2.2.2.1.d k (by omega)) (fun l4 rD DS MJ=>?_)
   refine .close' 0 4 SV x.2.2.1 (by decide) rfl rfl HC.symm (by rw [WL];obtain ⟨e1,e2⟩:=kN HC WL;rw [e1,e2]) (by omega) (fun k hk=>rD _ (aV.2.2.2.2.d k (by omega))) (fun l5 ti Hn Qz=>?_)
   refine .own' [aI B l5,box eu 144 2 [.int .i64 a,.bool nm],box ga 24 3 [.int .i64 e.op,.int .i64 e.lt,s],box iD 142 7 [.int .i64 0,.int .i64 0,.slice none 0 0,.int .i64 0,.int .i64 0,.slice none 0 0,.bool false]] (fun w hw=>hw.pk [0,1,2,3]) ?_
   refine .exit (.ai (.ai (.ar ?_)))
   refine .ab (cJ _ ?_)
   refine .sr fun _ dw=>?_
   refine .mv rfl ?_
   refine .v (.aZ aR rfl (by exact cR.tree hB 0 rfl (ti _ MJ))) ?_
   refine .uP aR cC rfl rfl (by omega) (by omega) trivial rfl (fun Fw=>?_)
   refine .as rfl (.nt dw ?_)
   refine .seq fun _ dE=>?_
   refine .sr fun _ dR=>?_
   refine .mv rfl ?_
   refine .v (.aZ aR rfl (by exact cR.tree hB 0 rfl (ti _ MJ))) ?_
   refine .mv rfl (.nt dR (.block ?_))
   refine .bE (X:=List Value × List cw) [(4,_),(6,_),(7,_),(11,_),(54,_),(55,_)] (fun y=>[(56,.int .i64 (y.1.length:Int))]) (fun y=>[aI B y.2,box eu 144 2 [.int .i64 a,.bool nm],box ga 24 3 [.int .i64 e.op,.int .i64 e.lt,s],box iD 142 7 [.int .i64 0,.int .i64 0,.slice none 0 0,.int .i64 0,.int .i64 0,.slice none 0 0,.bool false],row Fw 24 3 BY.length (dc (fR BY.length P y.1.length) (dS BY.length y.1))]) (fun y=>y.1.length≤BY.length∧(∀ z∈l5,z∈y.2)∧kJ y.2 P y.1) (fun y=>BY.length - y.1.length) (([],l5)) aU ?_ ?_ ?_ ?_
   ·exact ⟨Nat.zero_le _,fun z hz=>hz,kJ.nil _ _⟩
   ·exact aU
   ·exact fun w hw=>by obtain ⟨e1,e2⟩:=kM BY.length P;simp only [List.length_nil];rw [e1,e2];exact hw
   ·intro y c6 _ dO
    refine .sr fun _ eJ=>?_
    refine .v (.lss rfl rfl) (.nt eJ ?_)
    refine .seq fun _ eY=>?_
    refine .aA rfl (fun cZ=>?_) (fun cZ=>?_)
    ·have oA:y.1.length<BY.length:=by omega
     have Wp:=aV.2.2.2.1.s y.1.length (by omega)
     have WQ:=ti _ (rD _ (aV.2.2.2.1.d y.1.length (by omega)))
     have WH:=hPk y.1.length oA
     refine .skip ?_
     refine .ab (eY _ ?_)
     refine .seq fun _ eI=>?_
     refine .block ?_
     refine .sr fun _ fH=>?_
     refine .mv rfl ?_
     refine .v (.iN aR rfl rfl (hr:=(by exact cR.tree hB 0 rfl (c6.2.1 _ (ti _ MJ))))) ?_
     refine .v (.da aM rfl (by exact cR.tree hB 0 rfl (c6.2.1 _ (ti _ MJ))) (by omega) rfl (by omega)) ?_
     refine .alloc cC rfl rfl trivial rfl (fun RB=>?_)
     refine .as rfl ?_
     refine .ah 5 (us:=[.int .i64 (BY.getD y.1.length default).op,.int .i64 (BY.getD y.1.length default).lt,x.2.1.getD y.1.length undef]) (cs':=[.int .i64 (BY.getD y.1.length default).op,.int .i64 (BY.getD y.1.length default).lt,x.2.1.getD y.1.length undef]) rfl cy rfl rfl rfl rfl aJ (aT rfl) rfl trivial ?_
     refine .nt fH ?_
     refine .seq fun _ gq=>?_
     refine .sr fun _ iT=>?_
     refine .v (.fieldAddr cP rfl) (.v (.aa cQ rfl ax rfl) (.v (.eql rfl rfl) (.nt iT ?_)))
     refine .aA rfl (fun iz=>?_) (fun iz=>?_)
     ·rw [if_pos iz] at WH
      have hPe:BY.getD y.1.length default=P.getD y.1.length default:=Option.some.inj WH
      refine .sr fun _ iZ=>?_
      refine .mv rfl (.mv rfl (.v (.ak aM rfl ax rfl rfl) ?_))
      refine .v (.iN aR rfl rfl (hr:=(by exact a8))) ?_
      refine .fV 4 rfl cy rfl rfl rfl rfl (aw rfl (aw rfl (aw (aB.one Wp) bY))) (by omega) (cs':=dc (fR BY.length P (y.1.length+1)) (dS BY.length (y.1++[x.2.1.getD y.1.length undef]))) ((by have h:=j5 WU oA (x.2.1.getD y.1.length undef);rw [← hPe] at h;exact h)) trivial ?_
      refine .nt iZ (.exit (.ai (.ar ?_)))
      refine .ab (eI _ ?_)
      refine .region ?_
      refine .v (.add rfl rfl (by omega)) ?_
      refine .mv rfl (.nil ?_)
      refine .ab (dO _ _ ((y.1++[x.2.1.getD y.1.length undef],y.2)) ⟨by simp;omega,c6.2.1,c6.2.2.snoc (by rw [← hPe];exact c6.2.1 _ WQ) Wp⟩ (by simp;omega) (.cons (s9 rfl (by simp)) (aU)) (fun w hw=>by have h:=hw.pk [0,1,2,3,4];simpa using h))
     ·rw [if_neg iz] at WH
      refine .skip ?_
      refine .ab (gq _ ?_)
      refine .seq fun _ iS=>?_
      try (conv=>enter [2,2];simp only [cE])
      refine .jG _ 8 (fun _ hw=>hw.pk [0,1,2,3,4,5]) mixed ?_
      refine .FS (fun _ hw=>hw.pk [0,1,2,3,4,5]) 0 7 8 1 rfl (.ak aM rfl ax rfl rfl) trivial ?_
      refine .FS (fun _ hw=>hw.pk [0,1,2,3,4,5]) 2 6 8 5 rfl (.move rfl) trivial ?_
      refine .FS (fun _ hw=>hw.pk [0,1,2,3,4,5]) 3 5 8 13 rfl (.move rfl) trivial ?_
      refine .FS (fun _ hw=>hw.pk [0,1,2,3,4,5]) 4 4 8 29 rfl (.HI (((y.1.length+1:Nat):Int)) rfl rfl (by omega) (by omega)) trivial ?_
      refine .FS (fun _ hw=>hw.pk [0,1,2,3,4,5]) 5 3 8 61 rfl (.rX (mn.tree hB 0 rfl (c6.2.1 _ Qz)) aR rfl rfl (by omega)) trivial ?_
      refine .O 1 2 8 63 rfl ?_
      refine .lit (xs:=[.tmp 68]) aR cC rfl rfl rfl (by simp [Value.cells]) (by decide) (by decide) trivial rfl (fun lf=>?_)
      refine .nil ?_
      try (conv=>enter [2,2];simp only [cE])
      refine ay.bo (fun _ hw=>hw.pk [0,1,2,3,4,5]) ?_
      refine .O 6 1 8 127 rfl ?_
      refine .gA 6 rfl aR cC rfl (by decide) rfl rfl rfl ((cR.tree hB 0 rfl (c6.2.1 _ Qz)).fr (mn.tree hB 0 rfl (c6.2.1 _ Qz)) (by omega)) (fun u hu=>mA SV x.2.2.1 (pf fun j hj=>aV.2.2.2.2.s j hj) u (List.mem_of_mem_drop hu)) (by omega) (by omega) trivial rfl (fun abj=>?_)
      refine .nil ?_
      try (conv=>enter [2,2];simp only [cE])
      refine ay.bo (fun _ hw=>hw.pk [0,1,2,3,4,5]) ?_
      refine .FS (fun _ hw=>hw.pk [0,1,2,3,4,5]) 7 0 8 255 rfl (.assign rfl) trivial ?_
      refine .done cx ?_
      refine .ab (iS _ ?_)
      refine .region ?_
      refine .mv rfl (.mv rfl (.mv rfl ?_))
      refine .close' 0 6 (BY.getD y.1.length default :: SV.drop (y.1.length+1)) (x.2.1.getD y.1.length undef :: x.2.2.1.drop (y.1.length+1)) (by decide) rfl rfl (by rw [List.length_cons,List.length_drop,HC];omega) (by rw [jn,← mr _ _ _ (by omega)];rfl) (by simp;omega) (x4 (c6.2.1 _ WQ) (aV.2.2.2.2.later fun z hz=>c6.2.1 _ (ti _ (rD _ hz))) (by omega)) (fun l6 yd Mv hr6=>?_)
      refine .aY 0 rfl nZ rfl (fun w Fs hw hh bI bc=>ki w (Fs 0) B l6 (hB.later bI bc 0) (hh.at_ 0 _ rfl) 5 _ _ Mv _ WH) trivial rfl ?_
      rintro r A o ⟨sr,l7,rfl,qc,rfl,Fy,MN,rfl⟩
      refine .v (.iN aR rfl rfl (hr:=(by exact a8))) ?_
      refine .fV 4 rfl cy rfl rfl rfl rfl (aw rfl (aw rfl (aw (aB.one qc) bY))) (by omega) (cs':=dc (fR BY.length P (y.1.length+1)) (dS BY.length (y.1++[sr]))) (j5 WU oA sr) trivial ?_
      refine .nil (.ag ?_)
      refine .ab (eI _ ?_)
      refine .region ?_
      refine .v (.add rfl rfl (by omega)) ?_
      refine .mv rfl (.nil ?_)
      refine .ab (dO _ _ ((y.1++[sr],l7)) ⟨by simp;omega,fun z hz=>Fy _ (yd _ (c6.2.1 z hz)),(c6.2.2.later (fun z hz=>Fy _ (yd _ hz))).snoc MN qc⟩ (by simp;omega) (.cons (s9 rfl (by simp)) (aU)) (fun w hw=>by have h:=hw.pk [0,1,2,3,4];simpa using h))
    ·have oA:y.1.length=BY.length:=by omega
     refine .close' 0 4 P y.1 (by decide) rfl rfl WU.symm (by rw [oA];obtain ⟨e1,e2⟩:=kN WU oA;rw [e1,e2]) (by omega) (fun k hk=>c6.2.2.d k (by omega)) (fun l8 hs8 hm8 hr8=>?_)
     refine .exit (.ai (.ai (.ar ?_)))
     refine .ab (dE _ ?_)
     refine .sr fun _ jy=>?_
     refine .mv rfl ?_
     refine .aY 0 rfl nZ rfl (fun w Fs hw hh bI bc=>ki w (Fs 0) B l8 (hB.later bI bc 0) (hh.at_ 0 _ rfl) 4 _ _ hm8 d.1 WY) trivial rfl ?_
     rintro r A o ⟨Wo,l9,rfl,Ud,rfl,hs9,hm9,rfl⟩
     refine .mv rfl ?_
     refine .aY 0 rfl nZ rfl (fun w Fs hw hh bI bc=>ki w (Fs 0) B l9 (hB.later bI bc 0) (hh.at_ 0 _ rfl) 5 _ _ (hs9 _ (hs8 _ (c6.2.1 _ Hn))) d.2.1 T5) trivial rfl ?_
     rintro r A o ⟨Wn,l10,rfl,Uc,rfl,Up,Y3,rfl⟩
     refine .mv rfl ?_
     refine .v (.build (parts:=[(0,.tmp 82),(1,.tmp 84),(2,.tmp 85)]) (cs:=#[.int .i64 d.1.op,.int .i64 d.1.lt,Wo,.int .i64 d.2.1.op,.int .i64 d.2.1.lt,Wn,.bool x.2.2.2.1]) rfl (by obtain ⟨_,_,_,rfl⟩:=Ud;obtain ⟨_,_,_,rfl⟩:=Uc;kernel_rfl)) ?_
     refine .ah 3 (us:=[.int .i64 d.1.op,.int .i64 d.1.lt,Wo,.int .i64 d.2.1.op,.int .i64 d.2.1.lt,Wn,.bool x.2.2.2.1]) (cs':=[.int .i64 d.1.op,.int .i64 d.1.lt,Wo,.int .i64 d.2.1.op,.int .i64 d.2.1.lt,Wn,.bool x.2.2.2.1]) rfl iq rfl rfl rfl rfl aJ (aT rfl) rfl trivial ?_
     refine .nt jy (.ret ?_)
     refine .cO [.cell 4 142] rfl (.cons (.cell jH rfl ax rfl rfl) (.nil)) (fun w hw=>⟨_,_,_,?_,rfl,.of (hw.pk [0])⟩)
     rw [show x.2.2.2.1=d.2.2 from by rw [h3,hnN]]
     exact ⟨Wo,Wn,l10,rfl,Ud,Uc,rfl,fun z hz=>Up _ (hs9 _ (hs8 _ (c6.2.1 _ (ti _ (rD _ (aV.2.2.1 _ (h2.sub z hz))))))),Up _ hm9,Y3,rfl⟩
end Go.Proofs.YtbibnpdnmmgacaaGreatDoor
namespace Go.Proofs.YtbibnpdnmmgacaaGreatDoor
open Go.Sx Go.RowKit
set_option maxHeartbeats 2000000 in
theorem rk (w:World) (F:Nat→Prop) (B:Bs) (l:List cw) (hB:gI B w F) (hA:(aI B l).holds w F) (v rv:Value) (ps rs:List Ex) (hm:cw.deep v ps∈l) (gG:cw.deep rv rs∈l) (hz:∀ p∈ps,dt p+dL rs≤1000000000) (hn:ps.length≤1000000):ck Tryz.prog 131 [v,rv] w F (fun r A o=>Yg B l 24 (ba ps rs) r A o):=by
 refine cu Tryz.func131 rfl (aT rfl) hA ?_
 refine .rQ 0 rfl hm fun l1 ss h2=>?_
 refine .rQ 0 rfl (h2.sub _ gG) fun l2 rr h3=>?_
 have h2:=h2.later h3.sub
 have MM:=h2.ME
 have aa3:=h3.ME
 have MR:=GQ ps rs
 have MH:=h2.sl
 refine .sr fun _ bl=>?_
 refine .as rfl (.nt bl ?_)
 refine .sr fun _ bg=>?_
 refine .mv rfl ?_
 refine .v (.aZ aR rfl (by exact cR.tree hB 0 rfl h2.rw)) ?_
 refine .uP aR cC rfl rfl (by omega) (by omega) trivial rfl (fun iQ=>?_)
 refine .as rfl (.nt bg ?_)
 refine .seq fun _ bW=>?_
 refine .sr fun _ cr=>?_
 refine .mv rfl ?_
 refine .v (.aZ aR rfl (by exact cR.tree hB 0 rfl h2.rw)) ?_
 refine .mv rfl (.nt cr (.block ?_))
 refine .bE (X:=List Value × List cw) [(1,_),(5,_),(11,_),(12,_)] (fun x=>[(13,.int .i64 (x.1.length:Int))]) (fun x=>[aI B x.2,row iQ 24 3 ps.length (dc (fR ps.length (ba ps rs) x.1.length) (dS ps.length x.1))]) (fun x=>x.1.length≤ps.length∧(∀ z∈l2,z∈x.2)∧kJ x.2 (ba ps rs) x.1) (fun x=>ps.length - x.1.length) (([],l2)) aU ?_ ?_ ?_ ?_
 ·exact ⟨Nat.zero_le _,fun z hz=>hz,kJ.nil _ _⟩
 ·exact aU
 ·exact fun w hw=>by obtain ⟨e1,e2⟩:=kM ps.length (ba ps rs);simp only [List.length_nil];rw [e1,e2];exact hw
 ·intro x aV _ cJ
  refine .sr fun _ cU=>?_
  refine .v (.lss rfl rfl) (.nt cU ?_)
  refine .seq fun _ c7=>?_
  refine .aA rfl (fun bx=>?_) (fun bx=>?_)
  ·have eo:x.1.length<ps.length:=by omega
   have sk:=h2.qd x.1.length eo
   have IN:=hz (ps.getD x.1.length default) (aX eo)
   have yM:=kD rs
   refine .skip ?_
   refine .ab (c7 _ ?_)
   refine .seq fun _ dm=>?_
   refine .block ?_
   refine .sr fun _ dD=>?_
   refine .mv rfl ?_
   refine .v (.iN aR rfl rfl (hr:=(by exact cR.tree hB 0 rfl (aV.2.1 _ h2.rw)))) ?_
   refine .v (.da aM rfl (by exact cR.tree hB 0 rfl (aV.2.1 _ h2.rw)) h2.len rfl (by omega)) ?_
   refine .alloc cC rfl rfl trivial rfl (fun oe=>?_)
   refine .as rfl ?_
   refine .ah 2 (us:=[.int .i64 (ps.getD x.1.length default).op,.int .i64 (ps.getD x.1.length default).lt,ss.getD x.1.length undef]) (cs':=[.int .i64 (ps.getD x.1.length default).op,.int .i64 (ps.getD x.1.length default).lt,ss.getD x.1.length undef]) rfl cy rfl rfl rfl rfl aJ (aT rfl) rfl trivial ?_
   refine .nt dD ?_
   refine .region ?_
   refine .mv rfl (.mv rfl (.v (.ak aM rfl ax rfl rfl) ?_))
   refine .lit (xs:=[.tmp 20]) aR cC rfl rfl rfl (by simp [Value.cells]) (by decide) (by decide) trivial rfl (fun lv=>?_)
   refine .mv rfl ?_
   refine .gA 3 rfl aR cC rfl (by decide) rfl rfl rfl (cR.tree hB 0 rfl (aV.2.1 _ h3.rw)) (mA rs rr (pf fun j hj=>h3.qd j (by rw [← h3.len];exact hj))) (by omega) (by omega) trivial rfl (fun av=>?_)
   refine .close' 0 3 ((ps.getD x.1.length default) :: rs) ((ss.getD x.1.length undef) :: rr) (by decide) rfl rfl (by simp;omega) (by rw [jn];rfl) (by simp [h3.len]) (uu (aV.2.1 _ (h2.th _ eo)) (fun k hk=>aV.2.1 _ (h3.th k hk))) (fun l6 yd Mv hr6=>?_)
   refine .aY 0 rfl nZ rfl (fun w Fs hw hh bI bc=>ki w (Fs 0) B l6 (hB.later bI bc 0) (hh.at_ 0 _ rfl) 5 _ _ Mv (jC ((ps.getD x.1.length default) :: rs)) (C0 (by rw [aD];omega))) trivial rfl ?_
   rintro r A o ⟨sr,l7,rfl,qc,rfl,Fy,MN,rfl⟩
   refine .v (.iN aR rfl rfl (hr:=(by exact a8))) ?_
   refine .fV 1 rfl cy rfl rfl rfl rfl (aw rfl (aw rfl (aw (aB.one qc) bY))) (by omega) (cs':=dc (fR ps.length (ba ps rs) (x.1.length+1)) (dS ps.length (x.1++[sr]))) ((by have h:=j5 MR eo sr;rw [GR eo] at h;exact h)) trivial ?_
   refine .nil (.ag ?_)
   refine .ab (dm _ ?_)
   refine .region ?_
   refine .v (.add rfl rfl (by omega)) ?_
   refine .mv rfl (.nil ?_)
   refine .ab (cJ _ _ ((x.1++[sr],l7)) ⟨by simp;omega,fun z hz=>Fy _ (yd _ (aV.2.1 z hz)),(aV.2.2.later (fun z hz=>Fy _ (yd _ hz))).snoc (by rw [GR eo];exact MN) qc⟩ (by simp;omega) (.cons (s9 rfl (by simp)) (aU)) (fun w hw=>by have h:=hw.pk [0,1];simpa using h))
  ·have eo:x.1.length=ps.length:=by omega
   refine .shape 1 rfl (fun B0=>?_)
   refine .exit (.ai (.ai (.ar ?_)))
   refine .ab (bW _ ?_)
   refine .sr fun _ bJ=>?_
   refine .mv rfl (.as rfl (.nt bJ (.ret ?_)))
   refine .aG rfl rfl (fun w hw=>⟨_,_,_,?_,rfl,.of (hw.pk [0,1])⟩)
   refine ⟨x.1,x.2,B0,rfl,fun z hz=>aV.2.1 _ (h2.sub z hz),aV.2.2,by rw [MR];exact eo,?_⟩
   obtain ⟨e1,e2⟩:=kN MR eo
   rw [eo,e1,e2,MR]
   rfl
def Yf (a:Int) (e:Ex):Prop:=∀ (w:World) (F:Nat→Prop) (B:Bs) (l:List cw) (hB:gI B w F) (hA:(aI B l).holds w F) (s:Value) (hm:cw.deep s e.kids∈l) (hz:dt e≤1000) (x9:dg 6 e=true),ck Tryz.prog 77 [.agg #[.int .i64 e.op,.int .i64 e.lt,s],.int .i64 a] w F (Yg B l 24 (im a e))
set_option maxHeartbeats 4000000 in
theorem H0 (a:Int) (e:Ex) (ih:∀ i,i<e.kids.length→Yf a (e.kids.getD i default)) (w:World) (F:Nat→Prop) (B:Bs) (l:List cw) (hB:gI B w F) (hA:(aI B l).holds w F) (s:Value) (hm:cw.deep s e.kids∈l) (hz:dt e≤1000) (x9:dg 6 e=true):ck Tryz.prog 77 [.agg #[.int .i64 e.op,.int .i64 e.lt,s],.int .i64 a] w F (fun r A o=>Yg B l 24 (im a e) r A o):=by
 refine cu Tryz.func77 rfl (aT rfl) hA ?_
 refine .rQ 0 rfl hm fun l1 ss h2=>?_
 have MM:=h2.ME
 have Qx:=h2.sl
 have Wv:=jc e
 have aa8:=kD e.kids
 have Xw:e.op=7→e.kids.length=1:=AG x9
 have Fx:∀ i,i<e.kids.length→dg 6 (e.kids.getD i default)=true:=fun i hi=>nB x9 _ (aX hi)
 refine .sr fun _ bl=>?_
 refine .cS (E:=24) (cs:=[.int .i64 e.op,.int .i64 e.lt,s]) rfl rfl rfl trivial rfl (fun eu=>?_)
 refine .as rfl (.nt bl ?_)
 refine .seq fun _ bg=>?_
 refine .sr fun _ bW=>?_
 refine .v (.fieldAddr cP rfl) (.v (.aa cQ rfl ax rfl) (.nt bW (.block ?_)))
 refine .sr fun _ cr=>?_
 refine .v (.eql rfl rfl) (.as rfl (.nt cr ?_))
 refine .aA rfl (fun bx=>?_) (fun bx=>?_)
 ·refine .sr fun _ cJ=>?_
  refine .v (.fieldAddr gr rfl) (.v (.aa cQ rfl ax rfl) (.mv rfl (.v (.eql rfl rfl) (.nt cJ ?_))))
  refine .aA rfl (fun cB=>?_) (fun cB=>?_)
  ·refine .sr fun _ cU=>?_
   refine .v (.build (parts:=[(0,.const (.int .i64 2))]) (cs:=#[.int .i64 2,.int .i64 0,.slice none 0 0]) rfl (by kernel_rfl)) ?_
   refine .lit (xs:=[.tmp 19]) aR cC rfl rfl rfl (by simp [Value.cells]) (by decide) (by decide) trivial rfl (fun lv=>?_)
   refine .shape 2 rfl (fun BP=>?_)
   refine .as rfl (.nt cU (.ret (.al (.ae ?_))))
   refine .np 0 (.deep aW []) rfl (fun R=>dy.nil R) (fun l4 rD DS=>?_)
   refine .aG rfl rfl (fun w hw=>⟨_,_,_,?_,rfl,.of (hw.pk [0,2])⟩)
   have eP:im a e=[bu]:=by
    rw [kU]
    rw [if_pos (by simpa using bx),if_pos (by simpa using cB)]
   rw [eP]
   exact ⟨[aW],l4,BP,rfl,fun z hz=>rD _ (h2.sub z hz),(kJ.nil _ _).snoc DS cq,rfl,rfl⟩
  ·refine .skip (.ag ?_)
   refine .ab (bg _ ?_)
   refine .sr fun _ c7=>?_
   refine .as rfl (.nt c7 (.ret ?_))
   refine .ghost 24 3 ?_
   refine .aG rfl rfl (fun w hw=>⟨_,_,_,?_,rfl,.of (hw.pk [0,2])⟩)
   have eP:im a e=[]:=by
    rw [kU]
    simp_all
   rw [eP]
   exact ⟨[],l1,cq,rfl,h2.sub,kJ.nil _ _,rfl,rfl⟩
 ·refine .sr fun _ dm=>?_
  refine .v (.eql rfl rfl) (.as rfl (.nt dm ?_))
  refine .aA rfl (fun cZ=>?_) (fun cZ=>?_)
  ·refine .sr fun _ dD=>?_
   refine .as rfl (.nt dD ?_)
   refine .seq fun _ bJ=>?_
   refine .sr fun _ bP=>?_
   refine .v (.fieldAddr bM rfl) (.v (.aa du rfl ax rfl) ?_)
   refine .v (.aZ aR rfl (by exact cR.tree hB 0 rfl h2.rw)) ?_
   refine .mv rfl (.nt bP (.block ?_))
   refine .bE (X:=Nat × Value × List Value × List cw) [(1,_),(24,_),(25,_)] (fun x=>[(5,x.2.1),(26,.int .i64 (x.1:Int))]) (fun x=>[aI B x.2.2.2,box eu 24 3 [.int .i64 e.op,.int .i64 e.lt,s],row x.2.1 24 3 (ot a (e.kids.take x.1)).length (dc (ot a (e.kids.take x.1)) x.2.2.1)]) (fun x=>x.1≤e.kids.length∧aB x.2.1∧(∀ z∈l1,z∈x.2.2.2)∧kJ x.2.2.2 (ot a (e.kids.take x.1)) x.2.2.1∧x.2.2.1.length=(ot a (e.kids.take x.1)).length) (fun x=>e.kids.length - x.1) ((0,.slice none 0 0,[],l1)) aU ?_ ?_ ?_ ?_
   ·exact ⟨Nat.zero_le _,cq,fun z hz=>hz,kJ.nil _ _,by rw [List.take_zero,ot];rfl⟩
   ·exact aU
   ·exact fun w hw=>by have h:=hw.ghost 24 3;rw [List.take_zero,ot];exact h
   ·intro x aV _ ct
    refine .sr fun _ cK=>?_
    refine .v (.lss rfl rfl) (.nt cK ?_)
    refine .seq fun _ cW=>?_
    refine .aA rfl (fun iz=>?_) (fun iz=>?_)
    ·have ik:x.1<e.kids.length:=by omega
     have sk:=h2.qd x.1 ik
     have YT:=jO (aX (d:=default) ik)
     have O6:=lI (a:=a) (e.kids.getD x.1 default)
     have Wy:=AW (a:=a) (e.kids.take x.1)
     have aaW:dL (e.kids.take x.1)≤dL e.kids:=nC (List.take_sublist _ _)
     refine .skip ?_
     refine .ab (cW _ ?_)
     refine .seq fun _ c8=>?_
     refine .block ?_
     refine .sr fun _ dw=>?_
     refine .v (.iN aR rfl rfl (hr:=(by exact cR.tree hB 0 rfl (aV.2.2.1 _ h2.rw)))) ?_
     refine .v (.da aM rfl (by exact cR.tree hB 0 rfl (aV.2.2.1 _ h2.rw)) h2.len rfl (by omega)) ?_
     refine .alloc cC rfl rfl trivial rfl (fun oe=>?_)
     refine .ah 3 (us:=[.int .i64 (e.kids.getD x.1 default).op,.int .i64 (e.kids.getD x.1 default).lt,ss.getD x.1 undef]) (cs':=[.int .i64 (e.kids.getD x.1 default).op,.int .i64 (e.kids.getD x.1 default).lt,ss.getD x.1 undef]) rfl cy rfl rfl rfl rfl aJ (aT rfl) rfl trivial ?_
     refine .nt dw ?_
     refine .region ?_
     refine .mv rfl (.v (.ak aM rfl ax rfl rfl) (.mv rfl ?_))
     refine .aY 0 rfl JG rfl (fun w Fs hw hh bI bc=>ih x.1 ik w (Fs 0) B x.2.2.2 (hB.later bI bc 0) (hh.at_ 0 _ rfl) _ (aV.2.2.1 _ (h2.th _ ik)) (by omega) (Fx _ ik)) trivial rfl ?_
     rintro r A o ⟨Ml,l3,Wm,rfl,pz,IS,tx,rfl⟩
     refine .gA 2 rfl aR cC rfl (by decide) rfl rfl rfl (cR.own 4 rfl) (mA _ Ml (pf IS.s)) (by omega) (by omega) trivial rfl (fun va=>?_)
     refine .shape 2 rfl (fun Mn=>?_)
     refine .as rfl (.nil (.ag ?_))
     refine .ab (c8 _ ?_)
     refine .region ?_
     refine .v (.add rfl rfl (by omega)) ?_
     refine .mv rfl (.nil ?_)
     refine .ab (ct _ _ ((x.1+1,va,x.2.2.1++Ml,l3)) ⟨by dsimp only;omega,Mn,fun z hz=>pz _ (aV.2.2.1 z hz),by dsimp only;rw [wZ ik];exact (aV.2.2.2.1.later pz).app aV.2.2.2.2 IS,by dsimp only;rw [wZ ik,List.length_append,List.length_append,aV.2.2.2.2,tx]⟩ (by dsimp only;omega) (aU) (fun w hw=>by dsimp only;rw [wZ ik,iI _ _ _ _ aV.2.2.2.2,List.length_append];exact hw.pk [0,1,2]))
    ·have ik:x.1=e.kids.length:=by omega
     refine .exit (.ai (.ai (.ar ?_)))
     refine .ab (bJ _ ?_)
     refine .sr fun _ dE=>?_
     refine .mv rfl (.as rfl (.nt dE (.ret (.al (.ae ?_)))))
     refine .aG rfl rfl (fun w hw=>⟨_,_,_,?_,rfl,.of (hw.pk [0,2])⟩)
     have eP:im a e=ot a e.kids:=by
      rw [kU]
      rw [if_neg (by simpa using bx),if_pos (by simpa using cZ)]
     have hg:=aV
     rw [ik,List.take_length] at hg
     rw [eP,ik,List.take_length]
     exact ⟨x.2.2.1,x.2.2.2,hg.2.1,rfl,fun z hz=>hg.2.2.1 _ (h2.sub z hz),hg.2.2.2.1,hg.2.2.2.2,rfl⟩
  ·refine .sr fun _ dR=>?_
   refine .v (.eql rfl rfl) (.as rfl (.nt dR ?_))
   refine .aA rfl (fun gn=>?_) (fun gn=>?_)
   ·have vm:0<e.kids.length:=by have:=Xw (by simpa using gn);omega
    have sk:=h2.qd 0 vm
    have Ww:dt (e.kids.getD 0 default)≤1000:=by have:=jO (aX (d:=default) vm);omega
    have kP:∀ x∈l1,x∈l1:=fun x hx=>hx
    refine .seq fun _ dO=>?_
    try (conv=>enter [2,2];simp only [cE])
    refine .jG [aI B l1,box eu 24 3 [.int .i64 e.op,.int .i64 e.lt,s]] 10 (fun _ hw=>by first | exact hw.pk [0,1] | exact (HW.bH 0 rfl kP hw).pk [0,1]) mixed ?_
    refine .eO (fun _ hw=>by first | exact hw.pk [0,1] | exact (HW.bH 0 rfl kP hw).pk [0,1]) 0 (fuel:=9) (cm:=(lb 10 1)) _ rfl cx cx rfl (.fieldAddr bM rfl) trivial rfl ?_
    refine .eO (fun _ hw=>by first | exact hw.pk [0,1] | exact (HW.bH 0 rfl kP hw).pk [0,1]) 1 (fuel:=8) (cm:=(lb 10 3)) _ rfl cx cx rfl (.aa du rfl ax rfl) trivial rfl ?_
    refine .eO (fun _ hw=>by first | exact hw.pk [0,1] | exact (HW.bH 0 rfl kP hw).pk [0,1]) 2 (fuel:=7) (cm:=(lb 10 7)) _ rfl cx cx rfl (.qi (k:=0) aR rfl rfl (by exact cR.tree hB 0 rfl h2.rw) (by decide) (by omega)) trivial rfl ?_
    refine .eO (fun _ hw=>by first | exact hw.pk [0,1] | exact (HW.bH 0 rfl kP hw).pk [0,1]) 3 (fuel:=6) (cm:=(lb 10 15)) _ rfl cx cx rfl (.da aM rfl (by exact cR.tree hB 0 rfl h2.rw) h2.len rfl (by omega)) trivial rfl ?_
    refine .eO (fun _ hw=>by first | exact hw.pk [0,1] | exact (HW.bH 0 rfl kP hw).pk [0,1]) 4 (fuel:=5) (cm:=(lb 10 31)) _ rfl cx cx rfl (.move rfl) trivial rfl ?_
    refine .eO (fun _ hw=>by first | exact hw.pk [0,1] | exact (HW.bH 0 rfl kP hw).pk [0,1]) 6 (fuel:=4) (cm:=(lb 10 95)) _ rfl cx cx rfl (.ak aM rfl ax rfl rfl) trivial rfl ?_
    refine .two 5 7 (fuel:=3) (fD:=(lb 10 127)) (fC:=(lb 10 223)) cx rfl rfl cx cx ?_ ?_
    ·refine .aY 0 rfl JG rfl (fun w Fs hw hh bI bc=>ih 0 vm w (Fs 0) B l1 (hB.later bI bc 0) (hh.at_ 0 _ rfl) _ (h2.th _ vm) Ww (Fx _ vm)) trivial rfl ?_
     rintro r A o ⟨Ml,l3,Wm,rfl,pz,IS,tx,rfl⟩
     have kP:∀ x∈l1,x∈l3:=pz
     refine .nil ?_
     try (conv=>enter [2,2];simp only [cE])
     refine ay.bo (fun _ hw=>by first | exact hw.pk [0,1] | exact (HW.bH 0 rfl kP hw).pk [0,1]) ?_
     refine .O 7 2 10 255 rfl ?_
     refine .lit (xs:=[.tmp 45]) aR cC rfl rfl rfl (by simp [Value.cells]) (by decide) (by decide) trivial rfl (fun lv=>?_)
     refine .nil ?_
     try (conv=>enter [2,2];simp only [cE])
     refine ay.bo (fun _ hw=>by first | exact hw.pk [0,1] | exact (HW.bH 0 rfl kP hw).pk [0,1]) ?_
     refine .O 8 1 10 511 rfl ?_
     refine .close' 0 2 (im a (e.kids.getD 0 default)) Ml (by decide) rfl rfl rfl rfl tx (IS.all tx) (fun l4 rD DS MJ=>?_)
     refine .close' 0 3 [e] [s] (by decide) rfl rfl rfl rfl rfl (uu (rs:=[]) (rr:=[]) (rD _ (kP _ (h2.sub _ hm))) (fun k hk=>absurd hk (Nat.not_lt_zero k))) (fun l5 ti Hn Qz=>?_)
     refine .aY 0 rfl J5 rfl (fun w Fs hw hh bI bc=>rk w (Fs 0) B l5 (hB.later bI bc 0) (hh.at_ 0 _ rfl) _ _ (im a (e.kids.getD 0 default)) [e] (ti _ DS) Hn (fun p hp=>by have:=JL Ww p hp;rw [aD,bU];omega) (by have:=lI (a:=a) (e.kids.getD 0 default);omega)) trivial rfl ?_
     rintro r A o ⟨Qo,l6,Wl,rfl,yd,QE,Hz,rfl⟩
     have kP:∀ x∈l1,x∈l6:=fun x hx=>yd _ (ti _ (rD _ (kP x hx)))
     refine .nil ?_
     try (conv=>enter [2,2];simp only [cE])
     refine ay.bo (fun _ hw=>by first | exact hw.pk [0,1] | exact (HW.bH 0 rfl kP hw).pk [0,1]) ?_
     refine .eO (fun _ hw=>by first | exact hw.pk [0,1] | exact (HW.bH 0 rfl kP hw).pk [0,1]) 9 (fuel:=0) (cm:=(lb 10 1023)) _ rfl cx cx rfl (.assign rfl) trivial rfl ?_
     refine .done cx ?_
     refine .ab (dO _ ?_)
     refine .ret (.al (.ae ?_))
     refine .aG rfl rfl (fun w hw=>⟨_,_,_,?_,rfl,.of (hw.pk [0,4])⟩)
     have eP:im a e=ba (im a (e.kids.getD 0 default)) [e]:=by
      rw [kU]
      rw [if_neg (by simpa using bx),if_neg (by simpa using cZ),if_pos (by simpa using gn)]
      obtain ⟨k,hk⟩:=List.length_eq_one_iff.1 (Xw (by simpa using gn))
      rw [hk,ot,ot,List.append_nil];rfl
     rw [eP]
     exact ⟨Qo,l6,Wl,rfl,fun z hz=>kP _ (h2.sub z hz),QE,Hz,rfl⟩
    ·refine .lit (xs:=[.tmp 45]) aR cC rfl rfl rfl (by simp [Value.cells]) (by decide) (by decide) trivial rfl (fun lv=>?_)
     refine .nil ?_
     try (conv=>enter [2,2];simp only [cE])
     refine ay.bo (fun _ hw=>by first | exact hw.pk [0,1] | exact (HW.bH 0 rfl kP hw).pk [0,1]) ?_
     refine .O 5 2 10 255 rfl ?_
     refine .aY 0 rfl JG rfl (fun w Fs hw hh bI bc=>ih 0 vm w (Fs 0) B l1 (hB.later bI bc 0) (hh.at_ 0 _ rfl) _ (h2.th _ vm) Ww (Fx _ vm)) trivial rfl ?_
     rintro r A o ⟨Ml,l3,Wm,rfl,pz,IS,tx,rfl⟩
     have kP:∀ x∈l1,x∈l3:=pz
     refine .nil ?_
     try (conv=>enter [2,2];simp only [cE])
     refine ay.bo (fun _ hw=>by first | exact hw.pk [0,1] | exact (HW.bH 0 rfl kP hw).pk [0,1]) ?_
     refine .O 8 1 10 511 rfl ?_
     refine .close' 0 3 (im a (e.kids.getD 0 default)) Ml (by decide) rfl rfl rfl rfl tx (IS.all tx) (fun l4 rD DS MJ=>?_)
     refine .close' 0 2 [e] [s] (by decide) rfl rfl rfl rfl rfl (uu (rs:=[]) (rr:=[]) (rD _ (kP _ (h2.sub _ hm))) (fun k hk=>absurd hk (Nat.not_lt_zero k))) (fun l5 ti Hn Qz=>?_)
     refine .aY 0 rfl J5 rfl (fun w Fs hw hh bI bc=>rk w (Fs 0) B l5 (hB.later bI bc 0) (hh.at_ 0 _ rfl) _ _ (im a (e.kids.getD 0 default)) [e] (ti _ DS) Hn (fun p hp=>by have:=JL Ww p hp;rw [aD,bU];omega) (by have:=lI (a:=a) (e.kids.getD 0 default);omega)) trivial rfl ?_
     rintro r A o ⟨Qo,l6,Wl,rfl,yd,QE,Hz,rfl⟩
     have kP:∀ x∈l1,x∈l6:=fun x hx=>yd _ (ti _ (rD _ (kP x hx)))
     refine .nil ?_
     try (conv=>enter [2,2];simp only [cE])
     refine ay.bo (fun _ hw=>by first | exact hw.pk [0,1] | exact (HW.bH 0 rfl kP hw).pk [0,1]) ?_
     refine .eO (fun _ hw=>by first | exact hw.pk [0,1] | exact (HW.bH 0 rfl kP hw).pk [0,1]) 9 (fuel:=0) (cm:=(lb 10 1023)) _ rfl cx cx rfl (.assign rfl) trivial rfl ?_
     refine .done cx ?_
     refine .ab (dO _ ?_)
     refine .ret (.al (.ae ?_))
     refine .aG rfl rfl (fun w hw=>⟨_,_,_,?_,rfl,.of (hw.pk [0,4])⟩)
     have eP:im a e=ba (im a (e.kids.getD 0 default)) [e]:=by
      rw [kU]
      rw [if_neg (by simpa using bx),if_neg (by simpa using cZ),if_pos (by simpa using gn)]
      obtain ⟨k,hk⟩:=List.length_eq_one_iff.1 (Xw (by simpa using gn))
      rw [hk,ot,ot,List.append_nil];rfl
     rw [eP]
     exact ⟨Qo,l6,Wl,rfl,fun z hz=>kP _ (h2.sub z hz),QE,Hz,rfl⟩
   ·refine .sr fun _ eJ=>?_
    refine .v (.eql rfl rfl) (.as rfl (.nt eJ ?_))
    refine .aA rfl (fun qp=>?_) (fun qp=>?_)
    ·refine .sr fun _ eY=>?_
     refine .as rfl (.nt eY ?_)
     refine .seq fun _ eI=>?_
     refine .sr fun _ fH=>?_
     refine .v (.fieldAddr bM rfl) (.v (.aa du rfl ax rfl) ?_)
     refine .v (.aZ aR rfl (by exact cR.tree hB 0 rfl h2.rw)) ?_
     refine .mv rfl (.nt fH (.block ?_))
     refine .bE (X:=Nat × Value × List Value × List Ex × List cw) [(1,_),(2,_),(51,_),(52,_)] (fun x=>[(8,x.2.1),(53,.int .i64 (x.1:Int))]) (fun x=>[aI B x.2.2.2.2,box eu 24 3 [.int .i64 e.op,.int .i64 e.lt,s],row x.2.1 24 3 (x.2.2.2.1).length (dc (x.2.2.2.1) x.2.2.1)]) (fun x=>x.1≤e.kids.length∧aB x.2.1∧(∀ z∈l1,z∈x.2.2.2.2)∧kJ x.2.2.2.2 (x.2.2.2.1) x.2.2.1∧x.2.2.1.length=(x.2.2.2.1).length∧oz a e.kids=x.2.2.2.1++oz a (e.kids.drop x.1)) (fun x=>e.kids.length - x.1) ((0,.slice none 0 0,[],[],l1)) aU ?_ ?_ ?_ ?_
     ·exact ⟨Nat.zero_le _,cq,fun z hz=>hz,kJ.nil _ _,rfl,rfl⟩
     ·exact aU
     ·exact fun w hw=>by have h:=hw.ghost 24 3;exact h
     ·intro x c6 _ gq
      refine .sr fun _ iT=>?_
      refine .v (.lss rfl rfl) (.nt iT ?_)
      refine .seq fun _ iZ=>?_
      refine .aA rfl (fun ka=>?_) (fun ka=>?_)
      ·have ik:x.1<e.kids.length:=by omega
       have sk:=h2.qd x.1 ik
       have YT:=jO (aX (d:=default) ik)
       have IN:dt (e.kids.getD x.1 default)≤1000:=by omega
       have O6:=lI (a:=a) (e.kids.getD x.1 default)
       have Zi:=congrArg List.length c6.2.2.2.2.2
       have DW:=AX (a:=a) e.kids
       rw [List.length_append] at Zi
       have hdr:=Lp (a:=a) ik
       have aa9:=GQ (im a (e.kids.getD x.1 default)) (e.kids.drop (x.1+1))
       have kP:∀ z∈x.2.2.2.2,z∈x.2.2.2.2:=fun z hz=>hz
       refine .skip ?_
       refine .ab (iZ _ ?_)
       refine .seq fun _ iS=>?_
       refine .block ?_
       refine .sr fun _ jy=>?_
       refine .mv rfl ?_
       refine .v (.iN aR rfl rfl (hr:=(by exact cR.tree hB 0 rfl (c6.2.2.1 _ h2.rw)))) ?_
       refine .v (.da aM rfl (by exact cR.tree hB 0 rfl (c6.2.2.1 _ h2.rw)) h2.len rfl (by omega)) ?_
       refine .alloc cC rfl rfl trivial rfl (fun wi=>?_)
       refine .as rfl ?_
       refine .ah 3 (us:=[.int .i64 (e.kids.getD x.1 default).op,.int .i64 (e.kids.getD x.1 default).lt,ss.getD x.1 undef]) (cs':=[.int .i64 (e.kids.getD x.1 default).op,.int .i64 (e.kids.getD x.1 default).lt,ss.getD x.1 undef]) rfl cy rfl rfl rfl rfl aJ (aT rfl) rfl trivial ?_
       refine .nt jy ?_
       refine .seq fun _ kf=>?_
       try (conv=>enter [2,2];simp only [cE])
       refine .jG [aI B x.2.2.2.2,box eu 24 3 [.int .i64 e.op,.int .i64 e.lt,s],box wi 24 3 [.int .i64 (e.kids.getD x.1 default).op,.int .i64 (e.kids.getD x.1 default).lt,ss.getD x.1 undef]] 12 (fun _ hw=>by first | exact hw.pk [0,1,3] | exact (HW.bH 0 rfl kP hw).pk [0,1,3]) mixed ?_
       refine .eO (fun _ hw=>by first | exact hw.pk [0,1,3] | exact (HW.bH 0 rfl kP hw).pk [0,1,3]) 0 (fuel:=11) (cm:=(lb 12 1)) _ rfl cx cx rfl (.move rfl) trivial rfl ?_
       refine .eO (fun _ hw=>by first | exact hw.pk [0,1,3] | exact (HW.bH 0 rfl kP hw).pk [0,1,3]) 1 (fuel:=10) (cm:=(lb 12 3)) _ rfl cx cx rfl (.ak aM rfl ax rfl rfl) trivial rfl ?_
       refine .eO (fun _ hw=>by first | exact hw.pk [0,1,3] | exact (HW.bH 0 rfl kP hw).pk [0,1,3]) 2 (fuel:=9) (cm:=(lb 12 7)) _ rfl cx cx rfl (.move rfl) trivial rfl ?_
       refine .eO (fun _ hw=>by first | exact hw.pk [0,1,3] | exact (HW.bH 0 rfl kP hw).pk [0,1,3]) 4 (fuel:=8) (cm:=(lb 12 23)) _ rfl cx cx rfl (.fieldAddr bM rfl) trivial rfl ?_
       refine .eO (fun _ hw=>by first | exact hw.pk [0,1,3] | exact (HW.bH 0 rfl kP hw).pk [0,1,3]) 5 (fuel:=7) (cm:=(lb 12 55)) _ rfl cx cx rfl (.aa du rfl ax rfl) trivial rfl ?_
       refine .eO (fun _ hw=>by first | exact hw.pk [0,1,3] | exact (HW.bH 0 rfl kP hw).pk [0,1,3]) 6 (fuel:=6) (cm:=(lb 12 119)) _ rfl cx cx rfl (.move rfl) trivial rfl ?_
       refine .eO (fun _ hw=>by first | exact hw.pk [0,1,3] | exact (HW.bH 0 rfl kP hw).pk [0,1,3]) 7 (fuel:=5) (cm:=(lb 12 247)) _ rfl cx cx rfl (.HI (((x.1+1:Nat):Int)) rfl rfl (by omega) (by omega)) trivial rfl ?_
       refine .eO (fun _ hw=>by first | exact hw.pk [0,1,3] | exact (HW.bH 0 rfl kP hw).pk [0,1,3]) 8 (fuel:=4) (cm:=(lb 12 503)) _ rfl cx cx rfl (.rX (mn.tree hB 0 rfl (c6.2.2.1 _ h2.rw)) aR rfl rfl (by omega)) trivial rfl ?_
       refine .O 3 3 12 511 rfl ?_
       refine .aY 0 rfl JG rfl (fun w Fs hw hh bI bc=>ih x.1 ik w (Fs 0) B x.2.2.2.2 (hB.later bI bc 0) (hh.at_ 0 _ rfl) _ (c6.2.2.1 _ (h2.th _ ik)) IN (Fx _ ik)) trivial rfl ?_
       rintro r A o ⟨Ml,l3,Wm,rfl,pz,IS,tx,rfl⟩
       have kP:∀ z∈x.2.2.2.2,z∈l3:=pz
       refine .nil ?_
       try (conv=>enter [2,2];simp only [cE])
       refine ay.bo (fun _ hw=>by first | exact hw.pk [0,1,3] | exact (HW.bH 0 rfl kP hw).pk [0,1,3]) ?_
       refine .O 9 2 12 1023 rfl ?_
       refine .close' 0 4 (im a (e.kids.getD x.1 default)) Ml (by decide) rfl rfl rfl rfl tx (IS.all tx) (fun l4 rD DS MJ=>?_)
       refine .Yv 0 (x.1+1) rfl (rD _ (pz _ (c6.2.2.1 _ (h2.sub _ hm)))) (by omega) (fun l5 ti Hn=>?_)
       refine .aY 0 rfl J5 rfl (fun w Fs hw hh bI bc=>rk w (Fs 0) B l5 (hB.later bI bc 0) (hh.at_ 0 _ rfl) _ _ (im a (e.kids.getD x.1 default)) (e.kids.drop (x.1+1)) (ti _ DS) Hn (fun p hp=>by have:=JL IN p hp;have:=KW e.kids (x.1+1);omega) (by omega)) trivial rfl ?_
       rintro r A o ⟨Qo,l6,Wl,rfl,yd,QE,Hz,rfl⟩
       have kP:∀ z∈x.2.2.2.2,z∈l6:=fun z hz=>yd _ (ti _ (rD _ (kP z hz)))
       refine .nil ?_
       try (conv=>enter [2,2];simp only [cE])
       refine ay.bo (fun _ hw=>by first | exact hw.pk [0,1,3] | exact (HW.bH 0 rfl kP hw).pk [0,1,3]) ?_
       refine .O 10 1 12 2047 rfl ?_
       refine .gA 2 rfl aR cC rfl (by decide) rfl rfl rfl (cR.own 5 rfl) (mA _ Qo (pf QE.s)) (by omega) (by omega) trivial rfl (fun va=>?_)
       refine .shape 2 rfl (fun Mn=>?_)
       refine .nil ?_
       try (conv=>enter [2,2];simp only [cE])
       refine ay.bo (fun _ hw=>by first | exact hw.pk [0,1,3] | exact (HW.bH 0 rfl kP hw).pk [0,1,3]) ?_
       refine .eO (fun _ hw=>by first | exact hw.pk [0,1,3] | exact (HW.bH 0 rfl kP hw).pk [0,1,3]) 11 (fuel:=0) (cm:=(lb 12 4095)) _ rfl cx cx rfl (.assign rfl) trivial rfl ?_
       refine .done cx ?_
       refine .ab (kf _ ?_)
       refine .sr fun _ kB=>?_
       refine .v (.ak aM rfl ax rfl rfl) ?_
       refine .call Ei rfl (fun w hw=>Eo _ w _ (hw.qh hB 0 rfl (kP _ (c6.2.2.1 _ (h2.th _ ik))))) trivial rfl ?_
       rintro r o ⟨rfl,rfl⟩
       refine .v (.not rfl) (.nt kB ?_)
       refine .eW rfl (fun tb=>?_) (fun tb=>?_)
       ·have hnu:fq (e.kids.getD x.1 default)=false:=by simpa using tb
        refine .exit (.DK rfl (.ai (.ai (.ar ?_))))
        refine .ab (eI _ ?_)
        refine .sr fun _ ke=>?_
        refine .mv rfl (.as rfl (.nt ke (.ret (.al (.ae ?_)))))
        refine .aG rfl rfl (fun w hw=>⟨_,_,_,?_,rfl,.of (hw.pk [0,2])⟩)
        have eP:im a e=oz a e.kids:=by
         rw [kU]
         rw [if_neg (by simpa using bx),if_neg (by simpa using cZ),if_neg (by simpa using gn),if_pos (by simpa using qp)]
        have eC:oz a e.kids=x.2.2.2.1++(ba (im a (e.kids.getD x.1 default)) (e.kids.drop (x.1+1))):=by rw [c6.2.2.2.2.2,hdr,if_neg (by rw [hnu];decide),List.append_nil]
        rw [eP,eC]
        exact ⟨x.2.2.1++Qo,l6,Mn,rfl,fun z hz=>kP _ (c6.2.2.1 _ (h2.sub z hz)),(c6.2.2.2.1.later kP).app c6.2.2.2.2.1 QE,by rw [List.length_append,List.length_append,c6.2.2.2.2.1,Hz],by rw [List.length_append,iI _ _ _ _ c6.2.2.2.2.1];rfl⟩
       ·have hyu:fq (e.kids.getD x.1 default)=true:=by simpa using tb
        refine .skip (.ag ?_)
        refine .ab (iS _ ?_)
        refine .region ?_
        refine .v (.add rfl rfl (by omega)) ?_
        refine .mv rfl (.nil ?_)
        refine .ab (gq _ _ ((x.1+1,va,x.2.2.1++Qo,x.2.2.2.1++(ba (im a (e.kids.getD x.1 default)) (e.kids.drop (x.1+1))),l6)) ⟨by dsimp only;omega,Mn,fun z hz=>kP _ (c6.2.2.1 z hz),(c6.2.2.2.1.later kP).app c6.2.2.2.2.1 QE,by dsimp only;rw [List.length_append,List.length_append,c6.2.2.2.2.1,Hz],by dsimp only;rw [List.append_assoc,c6.2.2.2.2.2,hdr,if_pos hyu]⟩ (by dsimp only;omega) (aU) (fun w hw=>by dsimp only;rw [iI _ _ _ _ c6.2.2.2.2.1,List.length_append];exact hw.pk [0,1,2]))
      ·have ik:e.kids.length≤x.1:=by omega
       refine .exit (.ai (.ai (.ar ?_)))
       refine .ab (eI _ ?_)
       refine .sr fun _ nj=>?_
       refine .mv rfl (.as rfl (.nt nj (.ret (.al (.ae ?_)))))
       refine .aG rfl rfl (fun w hw=>⟨_,_,_,?_,rfl,.of (hw.pk [0,2])⟩)
       have eP:im a e=oz a e.kids:=by
        rw [kU]
        rw [if_neg (by simpa using bx),if_neg (by simpa using cZ),if_neg (by simpa using gn),if_pos (by simpa using qp)]
       have hg:=c6
       rw [N3 ik,List.append_nil] at hg
       rw [eP,hg.2.2.2.2.2]
       exact ⟨x.2.2.1,x.2.2.2.2,hg.2.1,rfl,fun z hz=>hg.2.2.1 _ (h2.sub z hz),hg.2.2.2.1,hg.2.2.2.2.1,rfl⟩
    ·refine .skip (.ag ?_)
     refine .ab (bg _ ?_)
     refine .sr fun _ lE=>?_
     refine .as rfl (.nt lE (.ret ?_))
     refine .ghost 24 3 ?_
     refine .aG rfl rfl (fun w hw=>⟨_,_,_,?_,rfl,.of (hw.pk [0,2])⟩)
     have eP:im a e=[]:=by
      rw [kU]
      simp_all
     rw [eP]
     exact ⟨[],l1,cq,rfl,h2.sub,kJ.nil _ _,rfl,rfl⟩
theorem YA (a:Int) (e:Ex):Yf a e:=Ex.ind (P:=Yf a) (fun e ih w F B l hB hA s hm hz x9=>H0 a e ih w F B l hB hA s hm hz x9) e
theorem R3 (w:World) (a b:Ex) (s t:Value) (h:dy (bD (fun _=>False) w) s a.kids) (h2:dy (bD (fun _=>False) w) t b.kids):aK Tryz.prog 128 [.agg #[.int .i64 a.op,.int .i64 a.lt,s],.agg #[.int .i64 b.op,.int .i64 b.lt,t]] w (fun r o=>r = .bool (qe a b)∧o=[]):=by
 have hs:=h.sl
 have ht:=h2.sl
 refine aC Tryz.func128 rfl (aT rfl) ?_
 refine .sr fun _ bl=>?_
 refine .cS (E:=24) (cs:=[.int .i64 a.op,.int .i64 a.lt,s]) rfl rfl rfl trivial rfl (fun eu=>?_)
 refine .cS (E:=24) (cs:=[.int .i64 b.op,.int .i64 b.lt,t]) rfl rfl rfl trivial rfl (fun ga=>?_)
 refine .as rfl (.nt bl ?_)
 refine .sr fun _ bg=>?_
 refine .v (.ak aM rfl ax rfl rfl) (.v (.ak aM rfl ax rfl rfl) ?_)
 refine .call JF rfl (fun w hw=>Ak a b w s t (h.at hw) (h2.at hw)) trivial rfl ?_
 rintro r o ⟨rfl,rfl⟩
 refine .v (.eql rfl rfl) (.as rfl (.nt bg (.ret ?_)))
 refine .aG rfl rfl (fun w hw=>⟨_,_,?_,rfl,.of (hw.pk [])⟩)
 exact ⟨rfl,rfl⟩
theorem R2 (w:World) (e:Ex) (s:Value):aK Tryz.prog 130 [.agg #[.int .i64 e.op,.int .i64 e.lt,s]] w (fun r o=>r = .bool (bb e)∧o=[]):=by
 refine aC Tryz.func130 rfl (aT rfl) ?_
 refine .sr fun _ bl=>?_
 refine .cS (E:=24) (cs:=[.int .i64 e.op,.int .i64 e.lt,s]) rfl rfl rfl trivial rfl (fun jV=>?_)
 refine .as rfl (.nt bl ?_)
 refine .sr fun _ bg=>?_
 refine .v (.fieldAddr cP rfl) (.v (.aa cQ rfl ax rfl) (.v (.eql rfl rfl) (.as rfl (.nt bg (.ret ?_)))))
 refine .aG rfl rfl (fun w hw=>⟨_,_,?_,rfl,.of (hw.pk [])⟩)
 exact ⟨rfl,rfl⟩
set_option maxHeartbeats 1000000 in
theorem K9 (w:World) (F:Nat→Prop) (s:Value) (ks:List Ex) (ss:List Value) (hl:ss.length=ks.length) (hn:ks.length≤1073741824) (hA:(row s 24 3 ks.length (dc ks ss)).holds w F) (hk:∀ i,i<ks.length→dy (bD F w) (ss.getD i undef) (ks.getD i default).kids):ck Tryz.prog 76 [s] w F (fun r A o=>∃ jw,aB r∧A=row r 24 3 (Mp ks).length (dc (Mp ks) jw)∧o=[]∧kS (Mp ks) jw ks ss):=by
 have MH:=tI hA
 refine cu Tryz.func76 rfl (aT rfl) hA ?_
 refine .sr fun _ bl=>?_
 refine .as rfl (.nt bl ?_)
 refine .sr fun _ bg=>?_
 refine .mv rfl ?_
 refine .aY 0 rfl PZ rfl (fun w Fs hw hh bI bc=>Gl w (Fs 0) s ks ss hl hn (hh.at_ 0 _ rfl) (fun i hi=>(hk i hi).yi bI bc 0)) trivial rfl ?_
 rintro r A o ⟨Xb,rfl,rfl,IY⟩
 refine .nt bg ?_
 refine .sr fun _ bW=>?_
 refine .mv rfl ?_
 refine .aY 0 rfl PX rfl (fun w Fs hw hh bI bc=>za w (Fs 0) 128 V8 s (gw ks) Xb IY.len (IY.qd fun i hi=>(hk i hi).sl) (by rw [pO];exact hh.at_ 0 _ rfl) (fun w' yx i j hi hj=>by obtain ⟨a,a1,a2,a3⟩:=IY.at_ i hi;obtain ⟨b,b1,b2,b3⟩:=IY.at_ j hj;rw [a2,a3,b2,b3];exact R3 w' _ _ _ _ (((hk a a1).yi bI bc 0).fr yx).wk (((hk b b1).yi bI bc 0).fr yx).wk)) trivial rfl ?_
 rintro r A o ⟨Mo,ku,rfl,rfl,Qu⟩
 have Qu:=Qu.trans IY
 refine .as rfl (.nt bW ?_)
 refine .sr fun _ cr=>?_
 refine .mv rfl ?_
 refine .aY 0 rfl F5 rfl (fun w Fs hw hh bI bc=>sC w (Fs 0) 130 V7 bb r (hD (gw ks)) Mo Qu.len (Qu.qd fun i hi=>(hk i hi).sl) (hh.at_ 0 _ rfl) (fun w' yx i hi=>R2 w' _ _)) trivial rfl ?_
 rintro r3 A o ⟨Qp,ym,rfl,rfl,Hk⟩
 refine .as rfl (.nt cr (.ret ?_))
 refine .aG rfl rfl (fun w hw=>⟨_,_,_,?_,rfl,.of (hw.pk [0])⟩)
 exact ⟨Qp,ym,rfl,rfl,Hk.trans Qu⟩
end Go.Proofs.YtbibnpdnmmgacaaGreatDoor
namespace Go.Proofs.YtbibnpdnmmgacaaGreatDoor
open Go.Sx Go.RowKit
theorem K6 (w:World) (l:List UInt8) (L:Int) (hm:l.length≤9223372036854775807):aK Tryz.prog 38 [sv l,.int .i64 L] w (fun r o=>r = .bool (gK L l)∧o=[]):=by
 refine aC Tryz.func38 rfl (aT rfl) ?_
 refine .sr fun _ bl=>?_
 refine .as rfl (.nt bl ?_)
 refine .seq fun _ bg=>?_
 refine .sr fun _ bW=>?_
 refine .mv rfl (.v (.lss rfl rfl) (.mv rfl ?_))
 refine .bQ (g:=8) rfl (fun bt=>?_) (fun bt=>?_)
 ·have dC:=bt
  try simp only [bs] at dC
  refine .pass rfl rfl (bt) rfl ?_
  refine .pass rfl rfl (bt) rfl ?_
  refine .v (.bw rfl (bt) rfl) (.mv rfl ?_)
  refine .pass rfl rfl rfl rfl ?_
  refine .pass rfl rfl rfl rfl ?_
  refine .pass rfl rfl rfl rfl ?_
  refine .v (.bw rfl (rfl) rfl) (.nt bW ?_)
  refine .cD rfl (rfl) ?_
  refine .sr fun _ cr=>?_
  refine .as rfl (.nt cr (.ret (.ae ?_)))
  refine .aG rfl rfl (fun w hw=>⟨_,_,?_,rfl,.of (hw.pk [])⟩)
  refine ⟨congrArg Value.bool ?_,rfl⟩
  symm;unfold gK;rw [decide_eq_false (by omega),Bool.false_and]
 ·have dC:=bt
  try simp only [bs] at dC
  refine .val _ (.move rfl) ⟨_,rfl,gB bt⟩ rfl ?_
  refine .val _ (.gtr rfl rfl) ⟨_,rfl,gB bt⟩ rfl ?_
  refine .v (.cH rfl (bt) rfl) (.mv rfl ?_)
  refine .bQ (g:=12) rfl (fun kY=>?_) (fun kY=>?_)
  ·have Bm:=kY
   try simp only [bs] at Bm
   refine .pass rfl rfl (kY) rfl ?_
   refine .pass rfl rfl (kY) rfl ?_
   refine .pass rfl rfl (kY) rfl ?_
   refine .v (.bw rfl (kY) rfl) (.nt bW ?_)
   refine .cD rfl (rfl) ?_
   refine .sr fun _ cJ=>?_
   refine .as rfl (.nt cJ (.ret (.ae ?_)))
   refine .aG rfl rfl (fun w hw=>⟨_,_,?_,rfl,.of (hw.pk [])⟩)
   refine ⟨congrArg Value.bool ?_,rfl⟩
   symm;unfold gK;rw [decide_eq_false (by omega),Bool.false_and]
  ·have Bm:=kY
   try simp only [bs] at Bm
   refine .val _ (.move rfl) ⟨_,rfl,gB kY⟩ rfl ?_
   refine .val _ (.Ea DM rfl) ⟨_,rfl,gB kY⟩ rfl ?_
   refine .val _ (.gtr rfl rfl) ⟨_,rfl,gB kY⟩ rfl ?_
   refine .v (.cH rfl (kY) rfl) (.nt bW ?_)
   refine .aA rfl (fun bx=>?_) (fun bx=>?_)
   ·refine .sr fun _ cU=>?_
    refine .as rfl (.nt cU (.ret (.ae ?_)))
    refine .aG rfl rfl (fun w hw=>⟨_,_,?_,rfl,.of (hw.pk [])⟩)
    refine ⟨congrArg Value.bool ?_,rfl⟩
    symm;unfold gK;rw [decide_eq_false (by omega),Bool.false_and]
   ·refine .skip ?_
    refine .ab (bg _ ?_)
    refine .seq fun _ c7=>?_
    refine .sr fun _ dm=>?_
    refine .mv rfl (.v (.Ea DM rfl) (.mv rfl (.nt dm (.block ?_))))
    refine .bE (X:=Nat) [(0,_),(1,_),(18,_)] (fun k=>[(19,.int .i64 (k:Int))]) (fun k=>[]) (fun k=>k≤l.length∧(1≤L∧L≤6∧l.length≤2048)∧(l.take k).all (okB L)=true) (fun k=>l.length - k) (0) aU ?_ ?_ ?_ ?_
    ·exact ⟨Nat.zero_le _,by omega,rfl⟩
    ·exact aU
    ·exact fun w hw=>hw
    ·intro k aV _ dD
     obtain ⟨hk,hL,ha⟩:=aV
     have FB:=UInt8.toNat_lt (l.getD k 0)
     refine .sr fun _ bJ=>?_
     refine .v (.lss rfl rfl) (.nt bJ ?_)
     refine .seq fun _ bP=>?_
     refine .aA rfl (fun cB=>?_) (fun cB=>?_)
     ·refine .skip ?_
      refine .ab (bP _ ?_)
      refine .seq fun _ ct=>?_
      refine .block ?_
      refine .sr fun _ cK=>?_
      refine .mv rfl (.as rfl (.nt cK ?_))
      refine .sr fun _ cW=>?_
      refine .mv rfl (.mv rfl ?_)
      refine .v (.JQ DM rfl rfl (by omega)) ?_
      refine .v (.lss rfl rfl) (.mv rfl ?_)
      refine .bQ (g:=26) rfl (fun fW=>?_) (fun fW=>?_)
      ·have Bc:=fW
       try simp only [bs] at Bc
       refine .pass rfl rfl (fW) rfl ?_
       refine .pass rfl rfl (fW) rfl ?_
       refine .pass rfl rfl (fW) rfl ?_
       refine .pass rfl rfl (fW) rfl ?_
       refine .pass rfl rfl (fW) rfl ?_
       refine .pass rfl rfl (fW) rfl ?_
       refine .pass rfl rfl (fW) rfl ?_
       refine .v (.bw rfl (fW) rfl) (.nt cW ?_)
       refine .cD rfl (rfl) ?_
       refine .sr fun _ c8=>?_
       refine .as rfl (.nt c8 (.ret (.al (.ae (.ae (.al (.ae ?_)))))))
       refine .aG rfl rfl (fun w hw=>⟨_,_,?_,rfl,.of (hw.pk [])⟩)
       refine ⟨congrArg Value.bool ?_,rfl⟩
       symm;unfold gK;rw [KM _ 0 (by omega:k<l.length) (by unfold okB;rw [decide_eq_false_iff_not];omega),Bool.and_false]
      ·have Bc:=fW
       try simp only [bs] at Bc
       refine .val _ (.move rfl) ⟨_,rfl,gB fW⟩ rfl ?_
       refine .val _ (.move rfl) ⟨_,rfl,gB fW⟩ rfl ?_
       refine .val _ (.JQ DM rfl rfl (by omega)) ⟨_,rfl,gB fW⟩ rfl ?_
       refine .val _ (.Ps rfl rfl (by omega)) ⟨_,rfl,gB fW⟩ rfl ?_
       refine .val _ (.wy (by kernel_rfl) Mk rfl (wrap_i64 (by omega))) ⟨_,rfl,gB fW⟩ rfl ?_
       refine .val _ (.move rfl) ⟨_,rfl,gB fW⟩ rfl ?_
       refine .val _ (.geq rfl rfl) ⟨_,rfl,gB fW⟩ rfl ?_
       refine .v (.cH rfl (fW) rfl) (.nt cW ?_)
       refine .aA rfl (fun cZ=>?_) (fun cZ=>?_)
       ·refine .sr fun _ dw=>?_
        refine .as rfl (.nt dw (.ret (.al (.ae (.ae (.al (.ae ?_)))))))
        refine .aG rfl rfl (fun w hw=>⟨_,_,?_,rfl,.of (hw.pk [])⟩)
        refine ⟨congrArg Value.bool ?_,rfl⟩
        symm;unfold gK;rw [KM _ 0 (by omega:k<l.length) (by unfold okB;rw [decide_eq_false_iff_not];omega),Bool.and_false]
       ·refine .skip (.ag ?_)
        refine .ab (ct _ ?_)
        refine .region ?_
        refine .v (.add rfl rfl (by omega)) ?_
        refine .mv rfl (.nil ?_)
        refine .ab (dD _ _ (k+1) ⟨by omega,hL,qH _ 0 (by omega) ha (by unfold okB;rw [decide_eq_true_eq];omega)⟩ (by omega) (aU) (fun w hw=>hw))
     ·refine .exit (.ai (.ai (.ar ?_)))
      refine .ab (c7 _ ?_)
      refine .sr fun _ dE=>?_
      refine .as rfl (.nt dE (.ret ?_))
      refine .aG rfl rfl (fun w hw=>⟨_,_,?_,rfl,.of (hw.pk [])⟩)
      refine ⟨congrArg Value.bool ?_,rfl⟩
      rw [show k=l.length by omega,List.take_length] at ha
      symm;unfold gK;rw [decide_eq_true hL,ha];rfl
end Go.Proofs.YtbibnpdnmmgacaaGreatDoor
namespace Go.Proofs.YtbibnpdnmmgacaaGreatDoor
open Go.Sx Go.RowKit
theorem VC:FY Tryz.prog 98=true:=by kernel_rfl
theorem su {n:kc} {k:Nat} (hk:k<n.es.length) (h:qT n k=true):(List.range n.es.length).any (qT n)=true:=List.any_eq_true.2 ⟨k,List.mem_range.2 hk,h⟩
theorem Sw {n:kc} (h:∀ j,j<n.es.length→qT n j=false):¬ (List.range n.es.length).any (qT n)=true:=by
 rw [Bool.not_eq_true,List.any_eq_false]
 intro x hx
 rw [h x (List.mem_range.1 hx)];decide
theorem EH {n:kc} {k:Nat} (h:wj n k=true):qT n k=true:=by unfold qT;rw [h];rfl
theorem KJ {n:kc} {k:Nat} (hk:0<k) (h:qf (n.es.getD (k - 1) (0,0,0)) (n.es.getD k (0,0,0))=false):qT n k=true:=by unfold qT;rw [h,decide_eq_true hk];cases wj n k <;> rfl
theorem Hb {n:kc} {k:Nat} (h:wj n k=false) (h2:0<k→qf (n.es.getD (k - 1) (0,0,0)) (n.es.getD k (0,0,0))=true):qT n k=false:=by
 unfold qT;rw [h]
 by_cases hk:0<k
 ·rw [h2 hk];simp
 ·rw [decide_eq_false hk];rfl
theorem KH {a b:iV} (h:a=b∨0<tC a b):qf a b=false:=by
 cases e:qf a b
 ·rfl
 ·exact absurd h (BG.1 e)
set_option maxHeartbeats 2000000 in
theorem Dy (w:World) (v:Value) (n:kc) (h:MB (fun _=>False) w v n):aK Tryz.prog 59 [v] w (fun r o=>r = .int .i64 (qR n)∧o=[]):=by
 have h0:=h
 obtain ⟨vE,rfl,hE⟩:=h
 have sE:=Rd.sl hE
 have hme:=Rd.le hE
 refine aC Tryz.func59 rfl (aT rfl) ?_
 refine .sr fun _ bl=>?_
 refine .cS (E:=45) (cs:=[.int .i64 n.L,.int .i64 n.S,uv n.st,uv n.fi,vE]) rfl rfl rfl trivial rfl (fun jV=>?_)
 refine .as rfl (.nt bl ?_)
 refine .seq fun _ bg=>?_
 refine .sr fun _ bW=>?_
 refine .v (.fieldAddr wN rfl) (.v (.aa cQ rfl ax rfl) (.v (.lss rfl rfl) (.mv rfl ?_)))
 refine .bQ (g:=8) rfl (fun a7=>?_) (fun a7=>?_)
 ·have dP:=a7
  try simp only [bs] at dP
  refine .pass rfl rfl (a7) rfl ?_
  refine .pass rfl rfl (a7) rfl ?_
  refine .pass rfl rfl (a7) rfl ?_
  refine .v (.bw rfl (a7) rfl) (.mv rfl ?_)
  refine .pass rfl rfl rfl rfl ?_
  refine .pass rfl rfl rfl rfl ?_
  refine .pass rfl rfl rfl rfl ?_
  refine .v (.bw rfl (rfl) rfl) (.mv rfl ?_)
  refine .pass rfl rfl rfl rfl ?_
  refine .pass rfl rfl rfl rfl ?_
  refine .pass rfl rfl rfl rfl ?_
  refine .v (.bw rfl (rfl) rfl) (.nt bW ?_)
  refine .cD rfl (rfl) ?_
  refine .sr fun _ cr=>?_
  refine .as rfl (.nt cr (.ret (.ae ?_)))
  refine .aG rfl rfl (fun w hw=>⟨_,_,?_,rfl,.of (hw.pk [])⟩)
  refine ⟨congrArg (Value.int .i64) ?_,rfl⟩
  unfold qR
  rw [if_pos (by omega)]
 ·have dP:=a7
  try simp only [bs] at dP
  refine .val _ (.fieldAddr wN rfl) ⟨_,rfl,gB a7⟩ rfl ?_
  refine .val _ (.aa cQ rfl ax rfl) ⟨_,rfl,gB a7⟩ rfl ?_
  refine .val _ (.gtr rfl rfl) ⟨_,rfl,gB a7⟩ rfl ?_
  refine .v (.cH rfl (a7) rfl) (.mv rfl ?_)
  refine .bQ (g:=13) rfl (fun eN=>?_) (fun eN=>?_)
  ·have nI:=eN
   try simp only [bs] at nI
   refine .pass rfl rfl (eN) rfl ?_
   refine .pass rfl rfl (eN) rfl ?_
   refine .pass rfl rfl (eN) rfl ?_
   refine .v (.bw rfl (eN) rfl) (.mv rfl ?_)
   refine .pass rfl rfl rfl rfl ?_
   refine .pass rfl rfl rfl rfl ?_
   refine .pass rfl rfl rfl rfl ?_
   refine .v (.bw rfl (rfl) rfl) (.nt bW ?_)
   refine .cD rfl (rfl) ?_
   refine .sr fun _ cJ=>?_
   refine .as rfl (.nt cJ (.ret (.ae ?_)))
   refine .aG rfl rfl (fun w hw=>⟨_,_,?_,rfl,.of (hw.pk [])⟩)
   refine ⟨congrArg (Value.int .i64) ?_,rfl⟩
   unfold qR
   rw [if_pos (by omega)]
  ·have nI:=eN
   try simp only [bs] at nI
   refine .val _ (.fieldAddr tO rfl) ⟨_,rfl,gB eN⟩ rfl ?_
   refine .val _ (.aa cQ rfl ax rfl) ⟨_,rfl,gB eN⟩ rfl ?_
   refine .val _ (.lss rfl rfl) ⟨_,rfl,gB eN⟩ rfl ?_
   refine .v (.cH rfl (eN) rfl) (.mv rfl ?_)
   refine .bQ (g:=18) rfl (fun jf=>?_) (fun jf=>?_)
   ·have xi:=jf
    try simp only [bs] at xi
    refine .pass rfl rfl (jf) rfl ?_
    refine .pass rfl rfl (jf) rfl ?_
    refine .pass rfl rfl (jf) rfl ?_
    refine .v (.bw rfl (jf) rfl) (.nt bW ?_)
    refine .cD rfl (rfl) ?_
    refine .sr fun _ cU=>?_
    refine .as rfl (.nt cU (.ret (.ae ?_)))
    refine .aG rfl rfl (fun w hw=>⟨_,_,?_,rfl,.of (hw.pk [])⟩)
    refine ⟨congrArg (Value.int .i64) ?_,rfl⟩
    unfold qR
    rw [if_pos (by omega)]
   ·have xi:=jf
    try simp only [bs] at xi
    refine .val _ (.fieldAddr tO rfl) ⟨_,rfl,gB jf⟩ rfl ?_
    refine .val _ (.aa cQ rfl ax rfl) ⟨_,rfl,gB jf⟩ rfl ?_
    refine .val _ (.gtr rfl rfl) ⟨_,rfl,gB jf⟩ rfl ?_
    refine .v (.cH rfl (jf) rfl) (.nt bW ?_)
    refine .aA rfl (fun bx=>?_) (fun bx=>?_)
    ·refine .sr fun _ c7=>?_
     refine .as rfl (.nt c7 (.ret (.ae ?_)))
     refine .aG rfl rfl (fun w hw=>⟨_,_,?_,rfl,.of (hw.pk [])⟩)
     refine ⟨congrArg (Value.int .i64) ?_,rfl⟩
     unfold qR
     rw [if_pos (by omega)]
    ·have Ec:¬ (¬ (1≤n.L∧n.L≤6)∨n.S<0∨n.S > 64):=(by omega)
     refine .skip ?_
     refine .ab (bg _ ?_)
     refine .seq fun _ dm=>?_
     refine .seq fun _ dD=>?_
     refine .quiet mixed cx ?_
     refine .v (.fieldAddr Kx rfl) (.v (.aa iY rfl ax rfl) (.v (.fieldAddr tL rfl) (.v (.aa iY rfl ax rfl) (.v (.IZ rfl rfl) (.v (.fieldAddr tO rfl) (.v (.aa cQ rfl ax rfl) ?_))))))
     refine .call (uv (below n.S)) Wd rfl (fun w hw=>K8 w n.S (by omega)) (fun v o h=>h.1) trivial rfl ?_
     refine .v (.Hc rfl rfl) (.v (.Jm (b:=0) rfl rfl) (.nil (QK.fin ?_)))
     refine .ab (dD _ ?_)
     refine .df rfl (fun cB=>?_) (fun cB=>?_)
     ·refine .sr fun _ bJ=>?_
      refine .as rfl (.nt bJ (.ret (.ae ?_)))
      refine .aG rfl rfl (fun w hw=>⟨_,_,?_,rfl,.of (hw.pk [])⟩)
      refine ⟨congrArg (Value.int .i64) ?_,rfl⟩
      unfold qR
      rw [if_neg Ec,if_pos (by assumption)]
     ·have qQ:¬ ((n.st ||| n.fi) &&& ~~~(below n.S) ≠ 0):=(by exact not_not_intro cB)
      refine .skip ?_
      refine .ab (dm _ ?_)
      refine .seq fun _ bP=>?_
      refine .sr fun _ ct=>?_
      refine .v (.fieldAddr lY rfl) (.v (.aa Cd rfl ax rfl) (.v (.aZ yt rfl a8) (.mv rfl (.nt ct (.block ?_)))))
      refine .bE (X:=Nat) [(1,_),(34,_),(35,_)] (fun k=>[(36,.int .i64 (k:Int))]) (fun k=>[box jV 45 5 [.int .i64 n.L,.int .i64 n.S,uv n.st,uv n.fi,vE]]) (fun k=>k≤n.es.length∧∀ j,j<k→qT n j=false) (fun k=>n.es.length - k) (0) aU ?_ ?_ ?_ ?_
      ·exact ⟨Nat.zero_le _,fun j hj=>by omega⟩
      ·exact aU
      ·exact fun w hw=>hw
      ·intro k aV _ cK
       refine .sr fun _ cW=>?_
       refine .v (.lss rfl rfl) (.nt cW ?_)
       refine .seq fun _ c8=>?_
       refine .aA rfl (fun cZ=>?_) (fun cZ=>?_)
       ·refine .skip ?_
        refine .ab (c8 _ ?_)
        refine .seq fun _ dw=>?_
        refine .block ?_
        refine .sr fun _ dE=>?_
        refine .mv rfl (.v (.iN yt rfl rfl) ?_)
        refine .v (.Ao Cm rfl a8 (by omega)) ?_
        refine .alloc JC rfl rfl trivial rfl (fun iD=>?_)
        refine .as rfl ?_
        refine .ah 1 (us:=BW (n.es.getD k (0,0,0))) (cs':=BW (n.es.getD k (0,0,0))) rfl T9 rfl rfl rfl rfl (BB _) (aT rfl) rfl trivial ?_
        refine .nt dE ?_
        refine .seq fun _ dR=>?_
        refine .sr fun _ dO=>?_
        refine .v (.fieldAddr wM rfl) (.v (.aa cQ rfl ax rfl) (.v (.fieldAddr wL rfl) (.v (.aa cQ rfl ax rfl) (.v (.fieldAddr wK rfl) (.v (.aa cQ rfl ax rfl) (.v (.YL rfl rfl rfl) (.v (.lss rfl rfl) ?_)))))))
        refine .mv rfl ?_
        refine .bQ (g:=49) rfl (fun ft=>?_) (fun ft=>?_)
        ·have A9:=ft
         try simp only [bs] at A9
         refine .pass rfl rfl (ft) rfl ?_
         refine .pass rfl rfl (ft) rfl ?_
         refine .pass rfl rfl (ft) rfl ?_
         refine .pass rfl rfl (ft) rfl ?_
         refine .pass rfl rfl (ft) rfl ?_
         refine .pass rfl rfl (ft) rfl ?_
         refine .pass rfl rfl (ft) rfl ?_
         refine .pass rfl rfl (ft) rfl ?_
         refine .v (.bw rfl (ft) rfl) (.mv rfl ?_)
         refine .pass rfl rfl rfl rfl ?_
         refine .pass rfl rfl rfl rfl ?_
         refine .pass rfl rfl rfl rfl ?_
         refine .pass rfl rfl rfl rfl ?_
         refine .pass rfl rfl rfl rfl ?_
         refine .v (.bw rfl (rfl) rfl) (.nt dO ?_)
         refine .cD rfl (rfl) ?_
         refine .sr fun _ eJ=>?_
         refine .as rfl (.nt eJ (.ret (.ae (.al (.ae (.ae (.al (.ae ?_))))))))
         refine .aG rfl rfl (fun w hw=>⟨_,_,?_,rfl,.of (hw.pk [])⟩)
         refine ⟨congrArg (Value.int .i64) ?_,rfl⟩
         skip
         unfold qR
         rw [if_neg Ec,if_neg qQ,if_pos (su (k:=k) (by omega) (EH (by unfold wj;exact decide_eq_true (by omega))))]
        ·have A9:=ft
         try simp only [bs] at A9
         refine .val _ (.fieldAddr wM rfl) ⟨_,rfl,gB ft⟩ rfl ?_
         refine .val _ (.aa cQ rfl ax rfl) ⟨_,rfl,gB ft⟩ rfl ?_
         refine .val _ (.fieldAddr wK rfl) ⟨_,rfl,gB ft⟩ rfl ?_
         refine .val _ (.aa cQ rfl ax rfl) ⟨_,rfl,gB ft⟩ rfl ?_
         refine .val _ (.max rfl rfl) ⟨_,rfl,gB ft⟩ rfl ?_
         refine .val _ (.fieldAddr tO rfl) ⟨_,rfl,gB ft⟩ rfl ?_
         refine .val _ (.aa cQ rfl ax rfl) ⟨_,rfl,gB ft⟩ rfl ?_
         refine .val _ (.geq rfl rfl) ⟨_,rfl,gB ft⟩ rfl ?_
         refine .v (.cH rfl (ft) rfl) (.mv rfl ?_)
         refine .bQ (g:=59) rfl (fun fX=>?_) (fun fX=>?_)
         ·have xe:=fX
          try simp only [bs] at xe
          refine .pass rfl rfl (fX) rfl ?_
          refine .pass rfl rfl (fX) rfl ?_
          refine .pass rfl rfl (fX) rfl ?_
          refine .pass rfl rfl (fX) rfl ?_
          refine .pass rfl rfl (fX) rfl ?_
          refine .v (.bw rfl (fX) rfl) (.nt dO ?_)
          refine .cD rfl (rfl) ?_
          refine .sr fun _ eY=>?_
          refine .as rfl (.nt eY (.ret (.ae (.al (.ae (.ae (.al (.ae ?_))))))))
          refine .aG rfl rfl (fun w hw=>⟨_,_,?_,rfl,.of (hw.pk [])⟩)
          refine ⟨congrArg (Value.int .i64) ?_,rfl⟩
          skip
          unfold qR
          rw [if_neg Ec,if_neg qQ,if_pos (su (k:=k) (by omega) (EH (by unfold wj;exact decide_eq_true (by omega))))]
         ·have xe:=fX
          try simp only [bs] at xe
          refine .val _ (.fieldAddr wL rfl) ⟨_,rfl,gB fX⟩ rfl ?_
          refine .val _ (.aa cQ rfl ax rfl) ⟨_,rfl,gB fX⟩ rfl ?_
          refine .val _ (.fieldAddr wN rfl) ⟨_,rfl,gB fX⟩ rfl ?_
          refine .val _ (.aa cQ rfl ax rfl) ⟨_,rfl,gB fX⟩ rfl ?_
          refine .val _ (.geq rfl rfl) ⟨_,rfl,gB fX⟩ rfl ?_
          refine .v (.cH rfl (fX) rfl) (.nt dO ?_)
          refine .aA rfl (fun iz=>?_) (fun iz=>?_)
          ·refine .sr fun _ eI=>?_
           refine .as rfl (.nt eI (.ret (.ae (.al (.ae (.ae (.al (.ae ?_))))))))
           refine .aG rfl rfl (fun w hw=>⟨_,_,?_,rfl,.of (hw.pk [])⟩)
           refine ⟨congrArg (Value.int .i64) ?_,rfl⟩
           skip
           unfold qR
           rw [if_neg Ec,if_neg qQ,if_pos (su (k:=k) (by omega) (EH (by unfold wj;exact decide_eq_true (by omega))))]
          ·have hbb:wj n k=false:=(by unfold wj;exact decide_eq_false (by omega))
           refine .skip ?_
           refine .ab (dR _ ?_)
           refine .seq fun _ fH=>?_
           refine .quiet mixed cx ?_
           refine .mv rfl (.v (.gtr rfl rfl) (.mv rfl ?_))
           refine .bQ (g:=68) rfl (fun cn=>?_) (fun cn=>?_)
           ·have lj:=cn
            try simp only [bs] at lj
            refine .val _ (.fieldAddr lY rfl) ⟨_,rfl,gB cn⟩ rfl ?_
            refine .val _ (.aa Cd rfl ax rfl) ⟨_,rfl,gB cn⟩ rfl ?_
            refine .val _ (.move rfl) ⟨_,rfl,gB cn⟩ rfl ?_
            refine .val _ (.sub rfl rfl (by omega)) ⟨_,rfl,gB cn⟩ rfl ?_
            refine .val _ (.iK yt rfl rfl) ⟨_,rfl,gB cn⟩ rfl ?_
            refine .val (ev (n.es.getD (k - 1) (0,0,0))) (.iW (.Ao (j:=k - 1) Cm (by rw [show k - 1=((k:Int) - 1).toNat by omega];rfl) a8 (by omega)) rfl) ⟨_,rfl,gB cn⟩ rfl ?_
            refine .val _ (.CY Cm rfl ax) ⟨_,rfl,gB cn⟩ rfl ?_
            refine .val _ (.ZY VC rfl rfl) ⟨_,rfl,gB cn⟩ rfl ?_
            refine .val _ (.move rfl) ⟨_,rfl,gB cn⟩ rfl ?_
            refine .bQ (g:=77) rfl (fun cY=>?_) (fun cY=>?_)
            ·have uh:=cY
             try simp only [bs] at uh
             refine .pass rfl rfl (cY) rfl ?_
             refine .pass rfl rfl (cY) rfl ?_
             refine .pass rfl rfl (cY) rfl ?_
             refine .pass rfl rfl (cY) rfl ?_
             refine .pass rfl rfl (cY) rfl ?_
             refine .pass rfl rfl (cY) rfl ?_
             refine .pass rfl rfl (cY) rfl ?_
             refine .pass rfl rfl (cY) rfl ?_
             refine .pass rfl rfl (cY) rfl ?_
             refine .val _ (.bw rfl (cY) rfl) ⟨_,rfl,gB cn⟩ rfl ?_
             refine .v (.bw rfl (cn) rfl) (.nil (QK.fin ?_))
             refine .ab (fH _ ?_)
             refine .cD rfl (rfl) ?_
             refine .sr fun _ gq=>?_
             refine .as rfl (.nt gq (.ret (.al (.ae (.ae (.al (.ae ?_)))))))
             refine .aG rfl rfl (fun w hw=>⟨_,_,?_,rfl,.of (hw.pk [])⟩)
             refine ⟨congrArg (Value.int .i64) ?_,rfl⟩
             skip
             unfold qR
             rw [if_neg Ec,if_neg qQ,if_pos (su (k:=k) (by omega) (KJ (by omega) (KH (by exact .inl (by assumption)))))]
            ·have uh:=cY
             try simp only [bs] at uh
             refine .val _ (.fieldAddr lY rfl) ⟨_,rfl,gB cY⟩ rfl ?_
             refine .val _ (.aa Cd rfl ax rfl) ⟨_,rfl,gB cY⟩ rfl ?_
             refine .val _ (.move rfl) ⟨_,rfl,gB cY⟩ rfl ?_
             refine .val _ (.sub rfl rfl (by omega)) ⟨_,rfl,gB cY⟩ rfl ?_
             refine .val _ (.iK yt rfl rfl) ⟨_,rfl,gB cY⟩ rfl ?_
             refine .val (ev (n.es.getD (k - 1) (0,0,0))) (.iW (.Ao (j:=k - 1) Cm (by rw [show k - 1=((k:Int) - 1).toNat by omega];rfl) a8 (by omega)) rfl) ⟨_,rfl,gB cY⟩ rfl ?_
             refine .val _ (.CY Cm rfl ax) ⟨_,rfl,gB cY⟩ rfl ?_
             refine .call (.int .i64 (tC (n.es.getD (k - 1) (0,0,0)) (n.es.getD k (0,0,0)))) UG rfl (fun w hw=>Kn w (n.es.getD (k - 1) (0,0,0)) (n.es.getD k (0,0,0))) (fun v o h=>h.1) ⟨_,rfl,gB cY⟩ rfl ?_
             refine .val _ (.gtr rfl rfl) ⟨_,rfl,gB cY⟩ rfl ?_
             refine .val _ (.cH rfl (cY) rfl) ⟨_,rfl,gB cn⟩ rfl ?_
             refine .v (.bw rfl (cn) rfl) (.nil (QK.fin ?_))
             refine .ab (fH _ ?_)
             refine .aA rfl (fun gn=>?_) (fun gn=>?_)
             ·refine .sr fun _ iT=>?_
              refine .as rfl (.nt iT (.ret (.al (.ae (.ae (.al (.ae ?_)))))))
              refine .aG rfl rfl (fun w hw=>⟨_,_,?_,rfl,.of (hw.pk [])⟩)
              refine ⟨congrArg (Value.int .i64) ?_,rfl⟩
              skip
              unfold qR
              rw [if_neg Ec,if_neg qQ,if_pos (su (k:=k) (by omega) (KJ (by omega) (KH (by exact .inr (by omega)))))]
             ·refine .skip (.ag ?_)
              refine .ab (dw _ ?_)
              refine .region ?_
              refine .v (.add rfl rfl (by omega)) ?_
              refine .mv rfl (.nil ?_)
              refine .ab (cK _ _ (k+1) ⟨by omega,PJ aV.2 (Hb hbb (fun _=>BG.2 (fun h=>h.elim (by assumption) (fun h=>by omega))))⟩ (by omega) (aU) (fun w hw=>hw.pk [0]))
           ·have lj:=cn
            try simp only [bs] at lj
            refine .pass rfl rfl (cn) rfl ?_
            refine .pass rfl rfl (cn) rfl ?_
            refine .pass rfl rfl (cn) rfl ?_
            refine .pass rfl rfl (cn) rfl ?_
            refine .pass rfl rfl (cn) rfl ?_
            refine .pass rfl rfl (cn) rfl ?_
            refine .pass rfl rfl (cn) rfl ?_
            refine .pass rfl rfl (cn) rfl ?_
            refine .pass rfl rfl (cn) rfl ?_
            refine .pass rfl rfl trivial rfl ?_
            refine .pass rfl rfl trivial rfl ?_
            refine .pass rfl rfl trivial rfl ?_
            refine .pass rfl rfl trivial rfl ?_
            refine .pass rfl rfl trivial rfl ?_
            refine .pass rfl rfl trivial rfl ?_
            refine .pass rfl rfl trivial rfl ?_
            refine .pass rfl rfl trivial rfl ?_
            refine .pass rfl rfl trivial rfl ?_
            refine .pass rfl rfl (cn) rfl ?_
            refine .v (.cH rfl (cn) rfl) (.nil (QK.fin ?_))
            refine .ab (fH _ ?_)
            refine .dH rfl (rfl) ?_
            refine .skip (.ag ?_)
            refine .ab (dw _ ?_)
            refine .region ?_
            refine .v (.add rfl rfl (by omega)) ?_
            refine .mv rfl (.nil ?_)
            refine .ab (cK _ _ (k+1) ⟨by omega,PJ aV.2 (Hb hbb (fun h=>by omega))⟩ (by omega) (aU) (fun w hw=>hw.pk [0]))
       ·refine .exit (.ai (.ai (.ar ?_)))
        refine .ab (bP _ ?_)
        refine .sr fun _ iZ=>?_
        refine .as rfl (.nt iZ (.ret ?_))
        refine .aG rfl rfl (fun w hw=>⟨_,_,?_,rfl,.of (hw.pk [])⟩)
        refine ⟨congrArg (Value.int .i64) ?_,rfl⟩
        unfold qR
        rw [if_neg Ec,if_neg qQ,if_neg (Sw (fun j hj=>aV.2 j (by omega)))]
end Go.Proofs.YtbibnpdnmmgacaaGreatDoor
