import Derived.Test.YtbibnpdnmmgacaaGreatDoorKZk
import Derived.Test.YtbibnpdnmmgacaaGreatDoorKZm
import Derived.Test.YtbibnpdnmmgacaaGreatDoorKZi
import Derived.Test.YtbibnpdnmmgacaaGreatDoorKZf
import Derived.Test.YtbibnpdnmmgacaaGreatDoorKZo
import Derived.Test.YtbibnpdnmmgacaaGreatDoorKZp
import Derived.Test.YtbibnpdnmmgacaaGreatDoorKZq
import Derived.Test.YtbibnpdnmmgacaaGreatDoorKZh
import Derived.Test.YtbibnpdnmmgacaaGreatDoorKZn
set_option linter.unusedVariables false
set_option linter.unusedSimpArgs false
set_option maxRecDepth 100000
namespace Go.Proofs.YtbibnpdnmmgacaaGreatDoor
open Go.Sx Go.RowKit
theorem rP (w:World) (f:Int) (hf:f=0∨f=3):aK Tryz.prog 13 [.int .i64 f] w (fun r o=>r = .bool true∧o=[]):=by
 refine aC Tryz.func13 rfl (aT rfl) ?_
 refine .sr fun _ bl=>?_
 refine .as rfl (.nt bl ?_)
 refine .sr fun _ bg=>?_
 refine .mv rfl (.v (.eql rfl rfl) (.mv rfl ?_))
 refine .bQ (g:=5) rfl (fun bt=>?_) (fun bt=>?_)
 ·have dC:=bt
  try simp only [bs] at dC
  refine .pass rfl rfl (bt) rfl ?_
  refine .pass rfl rfl (bt) rfl ?_
  refine .v (.bw rfl (bt) rfl) (.as rfl (.nt bg (.ret ?_)))
  refine .aG rfl rfl (fun w hw=>⟨_,_,?_,rfl,.of (hw.pk [])⟩)
  refine ⟨congrArg Value.bool ?_,rfl⟩
  (simp_all;done)
 ·have dC:=bt
  try simp only [bs] at dC
  refine .val _ (.move rfl) ⟨_,rfl,gB bt⟩ rfl ?_
  refine .val _ (.eql rfl rfl) ⟨_,rfl,gB bt⟩ rfl ?_
  refine .v (.cH rfl (bt) rfl) (.as rfl (.nt bg (.ret ?_)))
  refine .aG rfl rfl (fun w hw=>⟨_,_,?_,rfl,.of (hw.pk [])⟩)
  refine ⟨congrArg Value.bool ?_,rfl⟩
  (simp_all;done)
end Go.Proofs.YtbibnpdnmmgacaaGreatDoor
namespace Go.Sx
open Go.RowKit
def Ya:bB:=⟨2,0,[true,false,false],[[1,2],[2,0],[2,2]]⟩
def Ad:Ex:=.mk 3 0 []
def JB:Ex:=.mk 3 1 []
def X4:Ex:=.mk 5 0 [Ad,JB]
theorem S9:(lF Ya).fin.length=3:=by decide +kernel
theorem Mh:(jE Ad [97] 0).getLsbD 1=true:=by decide +kernel
theorem S8:cg Ad 6=0:=by decide +kernel
theorem OU:Ap Ad:=by unfold Ap;decide
theorem OT:gK 6 [97]=true:=by decide +kernel
theorem OV {l:List cw} (h:cw.deep aW []∈l) (k:Nat) (hk:k < [Ad,JB].length):cw.deep ([aW,aW].getD k undef) ([Ad,JB].getD k default).kids∈l:=by
 rcases k with _ | _ | k
 ·exact h
 ·exact h
 ·exact absurd hk (by simp)
theorem Ta {l:List cw} {v:Value} (h:cw.deep v [Ad,JB]∈l) (k:Nat) (hk:k < [X4].length):cw.deep ([v].getD k undef) ([X4].getD k default).kids∈l:=by
 rcases k with _ | k
 ·exact h
 ·exact absurd hk (by simp)
end Go.Sx
namespace Go.Proofs.YtbibnpdnmmgacaaGreatDoor
open Go.Sx Go.RowKit
theorem wV (w:World) (x:Int):aK Tryz.prog 36 [.int .i64 x] w (fun r o=>r = .agg #[.int .i64 3,.int .i64 x,aW]∧o=[]):=by
 refine aC Tryz.func36 rfl (aT rfl) ?_
 refine .sr fun _ bl=>?_
 refine .alloc cC rfl rfl trivial rfl (fun eu=>?_)
 refine .nt bl ?_
 refine .sr fun _ bg=>?_
 refine .mv rfl ?_
 refine .v (.build (parts:=[(0,.const (.int .i64 3)),(1,.tmp 3)]) (cs:=#[.int .i64 3,.int .i64 x,.slice none 0 0]) rfl (by kernel_rfl)) ?_
 refine .ah 0 (us:=[.int .i64 3,.int .i64 x,.slice none 0 0]) (cs':=[.int .i64 3,.int .i64 x,.slice none 0 0]) rfl cy rfl rfl rfl rfl aJ (aT rfl) rfl trivial ?_
 refine .nt bg (.ret ?_)
 refine .cO [.cell 2 24] rfl (.cons (.cell aM rfl ax rfl rfl) (.nil)) (fun w hw=>⟨_,_,?_,rfl,.of (hw.pk [])⟩)
 exact ⟨rfl,rfl⟩
theorem Kk (w:World) (op:Int) (v:Value) (hv:aB v):aK Tryz.prog 20 [.int .i64 op,v] w (fun r o=>r = .agg #[.int .i64 op,.int .i64 0,v]∧o=[]):=by
 refine aC Tryz.func20 rfl (aT rfl) ?_
 refine .sr fun _ bl=>?_
 refine .alloc cC rfl rfl trivial rfl (fun iD=>?_)
 refine .nt bl ?_
 refine .sr fun _ bg=>?_
 refine .mv rfl (.mv rfl ?_)
 refine .v (.build (parts:=[(0,.tmp 5),(2,.tmp 6)]) (cs:=#[.int .i64 op,.int .i64 0,v]) rfl (by obtain ⟨_,_,_,rfl⟩:=hv;kernel_rfl)) ?_
 refine .ah 0 (us:=[.int .i64 op,.int .i64 0,v]) (cs':=[.int .i64 op,.int .i64 0,v]) rfl cy rfl rfl rfl rfl aJ (aT rfl) rfl trivial ?_
 refine .nt bg (.ret ?_)
 refine .cO [.cell 4 24] rfl (.cons (.cell aM rfl ax rfl rfl) (.nil)) (fun w hw=>⟨_,_,?_,rfl,.of (hw.pk [])⟩)
 exact ⟨rfl,rfl⟩
set_option maxHeartbeats 2000000 in
theorem nD (w:World) (hT:vp w):aK Tryz.prog 9 [] w (fun r o=>r = .bool true∧o=[]):=by
 refine aC Tryz.func9 rfl (aT rfl) ?_
 refine .sr fun _ bl=>?_
 refine .as rfl (.nt bl ?_)
 refine .sr fun _ bg=>?_
 refine .call Rz rfl (fun w hw=>wV w 0) trivial rfl ?_
 rintro r o ⟨rfl,rfl⟩
 refine .call Rz rfl (fun w hw=>wV w 1) trivial rfl ?_
 rintro r o ⟨rfl,rfl⟩
 refine .lit (xs:=[.tmp 4,.tmp 5]) aR cC rfl rfl rfl (by simp [Value.cells]) (by decide) (by decide) trivial rfl (fun lv=>?_)
 refine .shape 0 rfl (fun BP=>?_)
 refine .call UQ rfl (fun w hw=>Kk w 5 lv BP) trivial rfl ?_
 rintro r o ⟨rfl,rfl⟩
 refine .lit (xs:=[.tmp 7]) aR cC rfl rfl rfl (by simp [Value.cells]) (by decide) (by decide) trivial rfl (fun lw=>?_)
 refine .shape 1 rfl (fun slw=>?_)
 refine .call UQ rfl (fun w hw=>Kk w 7 lw slw) trivial rfl ?_
 rintro r o ⟨rfl,rfl⟩
 refine .pS ⟨w,fun _=>False⟩ ?_
 refine .np 2 (.deep aW []) rfl (fun R=>dy.nil R) (fun l1 uG Tq=>?_)
 refine .close' 2 0 [Ad,JB] [aW,aW] (by decide) rfl rfl rfl rfl rfl (OV Tq) (fun l2 dX gG _=>?_)
 refine .close' 2 1 [X4] [lv] (by decide) rfl rfl rfl rfl rfl (Ta gG) (fun l3 pz DT _=>?_)
 refine .aY 2 rfl US rfl (fun w Fs hw hh bI bc=>Gv w (Fs 2) ⟨_,fun _=>False⟩ l3 (fun b hb=>hb.elim) (hh.at_ 2 _ rfl) UB lw DT 2 (Ya,0) Mf) trivial rfl ?_
 rintro r A o ⟨vF,vN,rs,rfl,yM,W6,Tx,rfl,rfl⟩
 refine .Ez [om,om] ?_
 refine .mv rfl (.v (.extract rfl rfl) (.v (.extract rfl rfl) ?_))
 refine .alloc lR rfl rfl trivial rfl (fun jV=>?_)
 refine .ah 5 (us:=[.int .i64 (2:Int),.int .i64 (0:Int),vF,vN]) (cs':=[.int .i64 (2:Int),.int .i64 (0:Int),vF,vN]) rfl jW rfl rfl rfl rfl aJ (aT rfl) rfl trivial ?_
 refine .as rfl (.nt bg ?_)
 refine .sr fun _ bW=>?_
 refine .mv rfl (.v (.eql rfl rfl) (.mv rfl ?_))
 refine .e8 (g:=15) rfl (rfl) (fun ig=>?_)
 refine .val _ (.ak eZ rfl ax rfl rfl) ⟨_,rfl,gB ig⟩ rfl ?_
 refine .call Ng rfl (fun w hw=>FH w _ Ya (oD.own 2 hw yM rfl rfl rfl)) ⟨_,rfl,gB ig⟩ rfl ?_
 rintro r o ⟨mF,mN,ms,rfl,Fz,TB,Tz,rfl⟩
 refine .val _ (.SP (JI.of (by kernel_rfl):JI _ 32 2 2) rfl rfl) ⟨_,rfl,gB ig⟩ rfl ?_
 refine .val _ (.aZ gf rfl a8) ⟨_,rfl,gB ig⟩ rfl ?_
 refine .val _ (.eql rfl rfl) ⟨_,rfl,gB ig⟩ rfl ?_
 refine .v (.bw rfl (ig) rfl) (.mv rfl ?_)
 refine .e8 (g:=22) rfl (by rw [S9];rfl) (fun gL=>?_)
 refine .call Rz rfl (fun w hw=>wV w 0) ⟨_,rfl,gB gL⟩ rfl ?_
 rintro r o ⟨rfl,rfl⟩
 refine .call aaA rfl (fun w hw=>NQ w Ad aW (dy.nil _) [97] (by decide) OT S8 OU (hT.at hw)) ⟨_,rfl,gB gL⟩ rfl ?_
 rintro r o ⟨rfl,rfl⟩
 refine .v (.bw rfl (gL) rfl) (.as rfl (.nt bW (.ret ?_)))
 refine .aG rfl rfl (fun w hw=>⟨_,_,?_,rfl,.of (hw.pk [])⟩)
 exact ⟨congrArg Value.bool Mh,rfl⟩
end Go.Proofs.YtbibnpdnmmgacaaGreatDoor
namespace Go.Proofs.YtbibnpdnmmgacaaGreatDoor
open Go.Sx Go.RowKit
theorem Li (w:World) (e:Ex) (s:Value) (h:dy (bD (fun _=>False) w) s e.kids) (n:Int) (res:bB × Int) (hb:re e n=some res):aK Tryz.prog 11 [.agg #[.int .i64 e.op,.int .i64 e.lt,s],.int .i64 n] w (fun r o=>∃ vF vN rs,r = .tuple #[.agg #[.int .i64 res.1.L,.int .i64 res.1.s,vF,vN],.int .i64 res.2]∧rs.length=res.1.nx.length∧aB vF∧aB vN∧o=kg 4 3 67 vF vN rs res.1):=
 aK.post (aK.ofM (Gv w (fun _=>False) (mq w) [.deep s e.kids] (KI w) (DL (fun x hx=>by rw [List.mem_singleton.1 hx];exact zQ h)) e s List.mem_cons_self n res hb)) (fun v o w' hp hr=>by
  obtain ⟨A',o',⟨vF,vN,rs,e1,e2,e3,e4,rfl,rfl⟩,rfl⟩:=hp
  exact ⟨_,⟨vF,vN,rs,e1,e2,e3,e4,rfl⟩,hr.flat⟩)
set_option maxHeartbeats 600000 in
theorem Gm (w:World) (u v:Value) (a b:bB) (hu:oD (fun _=>False) w u a) (hv:oD (fun _=>False) w v b):aK Tryz.prog 24 [u,v] w (fun r o=>r = .bool (decide (a=b))∧o=[]):=by
 obtain ⟨uF,uN,rfl,huF,huN⟩:=hu
 obtain ⟨vF,vN,rfl,hvF,hvN⟩:=hv
 obtain ⟨ru,hru,YR,Jn⟩:=huN
 obtain ⟨rv,hrv,aaV,Q7⟩:=hvN
 have mu1:=huF.le
 have mu2:=YR.le
 unfold lQ at huF hvF
 refine aC Tryz.func24 rfl (aT rfl) ?_
 refine .sr fun _ bl=>?_
 refine .cS (E:=32) (cs:=[.int .i64 a.L,.int .i64 a.s,uF,uN]) rfl rfl rfl trivial rfl (fun eu=>?_)
 refine .cS (E:=32) (cs:=[.int .i64 b.L,.int .i64 b.s,vF,vN]) rfl rfl rfl trivial rfl (fun ga=>?_)
 refine .as rfl (.nt bl ?_)
 refine .seq fun _ bg=>?_
 refine .sr fun _ bW=>?_
 refine .v (.fieldAddr kn rfl) (.v (.aa cQ rfl ax rfl) (.v (.fieldAddr kn rfl) (.v (.aa cQ rfl ax rfl) (.v (.neq rfl rfl) (.mv rfl ?_)))))
 refine .bQ (g:=13) rfl (fun iH=>?_) (fun iH=>?_)
 ·have vP:=iH
  try simp only [bs] at vP
  refine .pass rfl rfl (iH) rfl ?_
  refine .pass rfl rfl (iH) rfl ?_
  refine .pass rfl rfl (iH) rfl ?_
  refine .pass rfl rfl (iH) rfl ?_
  refine .pass rfl rfl (iH) rfl ?_
  refine .v (.bw rfl (iH) rfl) (.mv rfl ?_)
  refine .pass rfl rfl rfl rfl ?_
  refine .pass rfl rfl rfl rfl ?_
  refine .pass rfl rfl rfl rfl ?_
  refine .pass rfl rfl rfl rfl ?_
  refine .pass rfl rfl rfl rfl ?_
  refine .pass rfl rfl rfl rfl ?_
  refine .pass rfl rfl rfl rfl ?_
  refine .v (.bw rfl (rfl) rfl) (.mv rfl ?_)
  refine .pass rfl rfl rfl rfl ?_
  refine .pass rfl rfl rfl rfl ?_
  refine .pass rfl rfl rfl rfl ?_
  refine .pass rfl rfl rfl rfl ?_
  refine .pass rfl rfl rfl rfl ?_
  refine .pass rfl rfl rfl rfl ?_
  refine .pass rfl rfl rfl rfl ?_
  refine .v (.bw rfl (rfl) rfl) (.nt bW ?_)
  refine .cD rfl (rfl) ?_
  refine .sr fun _ cr=>?_
  refine .as rfl (.nt cr (.ret (.ae ?_)))
  refine .aG rfl rfl (fun w hw=>⟨_,_,?_,rfl,.of (hw.pk [])⟩)
  refine ⟨congrArg Value.bool ?_,rfl⟩
  symm;rw [decide_eq_false_iff_not];intro e;subst e
  omega
 ·have vP:=iH
  try simp only [bs] at vP
  refine .val _ (.fieldAddr kZ rfl) ⟨_,rfl,gB iH⟩ rfl ?_
  refine .val _ (.aa cQ rfl ax rfl) ⟨_,rfl,gB iH⟩ rfl ?_
  refine .val _ (.fieldAddr kZ rfl) ⟨_,rfl,gB iH⟩ rfl ?_
  refine .val _ (.aa cQ rfl ax rfl) ⟨_,rfl,gB iH⟩ rfl ?_
  refine .val _ (.neq rfl rfl) ⟨_,rfl,gB iH⟩ rfl ?_
  refine .v (.cH rfl (iH) rfl) (.mv rfl ?_)
  refine .bQ (g:=20) rfl (fun eD=>?_) (fun eD=>?_)
  ·have sR:=eD
   try simp only [bs] at sR
   refine .pass rfl rfl (eD) rfl ?_
   refine .pass rfl rfl (eD) rfl ?_
   refine .pass rfl rfl (eD) rfl ?_
   refine .pass rfl rfl (eD) rfl ?_
   refine .pass rfl rfl (eD) rfl ?_
   refine .pass rfl rfl (eD) rfl ?_
   refine .pass rfl rfl (eD) rfl ?_
   refine .v (.bw rfl (eD) rfl) (.mv rfl ?_)
   refine .pass rfl rfl rfl rfl ?_
   refine .pass rfl rfl rfl rfl ?_
   refine .pass rfl rfl rfl rfl ?_
   refine .pass rfl rfl rfl rfl ?_
   refine .pass rfl rfl rfl rfl ?_
   refine .pass rfl rfl rfl rfl ?_
   refine .pass rfl rfl rfl rfl ?_
   refine .v (.bw rfl (rfl) rfl) (.nt bW ?_)
   refine .cD rfl (rfl) ?_
   refine .sr fun _ cJ=>?_
   refine .as rfl (.nt cJ (.ret (.ae ?_)))
   refine .aG rfl rfl (fun w hw=>⟨_,_,?_,rfl,.of (hw.pk [])⟩)
   refine ⟨congrArg Value.bool ?_,rfl⟩
   symm;rw [decide_eq_false_iff_not];intro e;subst e
   omega
  ·have sR:=eD
   try simp only [bs] at sR
   refine .val _ (.fieldAddr dp rfl) ⟨_,rfl,gB eD⟩ rfl ?_
   refine .val _ (.aa jx rfl ax rfl) ⟨_,rfl,gB eD⟩ rfl ?_
   refine .val _ (.aZ gf rfl (by exact a8)) ⟨_,rfl,gB eD⟩ rfl ?_
   refine .val _ (.fieldAddr dp rfl) ⟨_,rfl,gB eD⟩ rfl ?_
   refine .val _ (.aa jx rfl ax rfl) ⟨_,rfl,gB eD⟩ rfl ?_
   refine .val _ (.aZ gf rfl (by exact a8)) ⟨_,rfl,gB eD⟩ rfl ?_
   refine .val _ (.neq rfl rfl) ⟨_,rfl,gB eD⟩ rfl ?_
   refine .v (.cH rfl (eD) rfl) (.mv rfl ?_)
   refine .bQ (g:=29) rfl (fun eB=>?_) (fun eB=>?_)
   ·have sQ:=eB
    try simp only [bs] at sQ
    refine .pass rfl rfl (eB) rfl ?_
    refine .pass rfl rfl (eB) rfl ?_
    refine .pass rfl rfl (eB) rfl ?_
    refine .pass rfl rfl (eB) rfl ?_
    refine .pass rfl rfl (eB) rfl ?_
    refine .pass rfl rfl (eB) rfl ?_
    refine .pass rfl rfl (eB) rfl ?_
    refine .v (.bw rfl (eB) rfl) (.nt bW ?_)
    refine .cD rfl (rfl) ?_
    refine .sr fun _ cU=>?_
    refine .as rfl (.nt cU (.ret (.ae ?_)))
    refine .aG rfl rfl (fun w hw=>⟨_,_,?_,rfl,.of (hw.pk [])⟩)
    refine ⟨congrArg Value.bool ?_,rfl⟩
    symm;rw [decide_eq_false_iff_not];intro e;subst e
    omega
   ·have sQ:=eB
    try simp only [bs] at sQ
    refine .val _ (.fieldAddr eQ rfl) ⟨_,rfl,gB eB⟩ rfl ?_
    refine .val _ (.aa lC rfl ax rfl) ⟨_,rfl,gB eB⟩ rfl ?_
    refine .val _ (.aZ kQ rfl (by exact a8)) ⟨_,rfl,gB eB⟩ rfl ?_
    refine .val _ (.fieldAddr eQ rfl) ⟨_,rfl,gB eB⟩ rfl ?_
    refine .val _ (.aa lC rfl ax rfl) ⟨_,rfl,gB eB⟩ rfl ?_
    refine .val _ (.aZ kQ rfl (by exact a8)) ⟨_,rfl,gB eB⟩ rfl ?_
    refine .val _ (.neq rfl rfl) ⟨_,rfl,gB eB⟩ rfl ?_
    refine .v (.cH rfl (eB) rfl) (.nt bW ?_)
    refine .df rfl (fun bx=>?_) (fun bx=>?_)
    ·refine .sr fun _ c7=>?_
     refine .as rfl (.nt c7 (.ret (.ae ?_)))
     refine .aG rfl rfl (fun w hw=>⟨_,_,?_,rfl,.of (hw.pk [])⟩)
     refine ⟨congrArg Value.bool ?_,rfl⟩
     symm;rw [decide_eq_false_iff_not];intro e;subst e
     omega
    ·have hL:a.L=b.L:=(by simpa using vP)
     have hs:a.s=b.s:=(by simpa using sR)
     have hlF:a.fin.length=b.fin.length:=(by have:=sQ;omega)
     have hlN:a.nx.length=b.nx.length:=(by omega)
     refine .skip ?_
     refine .ab (bg _ ?_)
     refine .seq fun _ dm=>?_
     refine .sr fun _ dD=>?_
     refine .v (.fieldAddr dp rfl) (.v (.aa jx rfl ax rfl) ?_)
     refine .v (.aZ gf rfl (by exact a8)) ?_
     refine .mv rfl (.nt dD (.block ?_))
     refine .bE (X:=Nat) [(2,_),(3,_),(40,_)] (fun k=>[(41,.int .i64 (k:Int))]) (fun k=>[box eu 32 4 [.int .i64 a.L,.int .i64 a.s,uF,uN],box ga 32 4 [.int .i64 b.L,.int .i64 b.s,vF,vN]]) (fun k=>k≤a.fin.length∧a.fin.take k=b.fin.take k) (fun k=>a.fin.length - k) (0) aU ?_ ?_ ?_ ?_
     ·exact ⟨Nat.zero_le _,by simp⟩
     ·exact aU
     ·exact fun w hw=>hw
     ·intro k aV _ bJ
      obtain ⟨hk,ht⟩:=aV
      refine .sr fun _ bP=>?_
      refine .v (.lss rfl rfl) (.nt bP ?_)
      refine .seq fun _ ct=>?_
      refine .aA rfl (fun cB=>?_) (fun cB=>?_)
      ·refine .skip ?_
       refine .ab (ct _ ?_)
       refine .seq fun _ cK=>?_
       refine .block ?_
       refine .sr fun _ cW=>?_
       refine .mv rfl (.as rfl (.nt cW ?_))
       refine .seq fun _ c8=>?_
       refine .quiet mixed cx ?_
       refine .v (.fieldAddr dp rfl) (.v (.aa jx rfl ax rfl) (.mv rfl ?_))
       refine .v (.iN gf rfl rfl (hr:=(by exact a8))) ?_
       refine .v (.oK vk rfl (by exact a8) (by omega)) ?_
       refine .v (.fieldAddr dp rfl) (.v (.aa jx rfl ax rfl) (.mv rfl ?_))
       refine .v (.iN gf rfl rfl (hr:=(by exact a8))) ?_
       refine .v (.oK vk rfl (by exact a8) (by omega)) ?_
       refine .v (.Q1 T8 rfl rfl) (.nil (QK.fin ?_))
       refine .ab (c8 _ ?_)
       refine .cond rfl (fun cZ=>?_) (fun cZ=>?_)
       ·try simp only [bs] at cZ
        refine .sr fun _ dw=>?_
        refine .as rfl (.nt dw (.ret (.al (.ae (.ae (.al (.ae ?_)))))))
        refine .aG rfl rfl (fun w hw=>⟨_,_,?_,rfl,.of (hw.pk [])⟩)
        refine ⟨congrArg Value.bool ?_,rfl⟩
        symm;rw [decide_eq_false_iff_not];intro e;subst e
        simp at cZ
       ·try simp only [bs] at cZ
        refine .skip (.ag ?_)
        refine .ab (cK _ ?_)
        refine .region ?_
        refine .v (.add rfl rfl (by omega)) ?_
        refine .mv rfl (.nil ?_)
        refine .ab (bJ _ _ (k+1) ⟨by omega,(ux false hlF k (by omega) ht).2 (by simpa using cZ)⟩ (by omega) (aU) (fun w hw=>hw))
      ·have ZV:a.fin=b.fin:=(by rw [show k=a.fin.length by omega,List.take_length,hlF,List.take_length] at ht;exact ht)
       refine .exit (.ai (.ai (.ar ?_)))
       refine .ab (dm _ ?_)
       refine .seq fun _ dE=>?_
       refine .sr fun _ dR=>?_
       refine .v (.fieldAddr eQ rfl) (.v (.aa lC rfl ax rfl) ?_)
       refine .v (.aZ kQ rfl (by exact a8)) ?_
       refine .mv rfl (.nt dR (.block ?_))
       refine .bE (X:=Nat) [(2,_),(3,_),(58,_)] (fun k=>[(59,.int .i64 (k:Int))]) (fun k=>[box eu 32 4 [.int .i64 a.L,.int .i64 a.s,uF,uN],box ga 32 4 [.int .i64 b.L,.int .i64 b.s,vF,vN]]) (fun k=>k≤a.nx.length∧a.nx.take k=b.nx.take k) (fun k=>a.nx.length - k) (0) aU ?_ ?_ ?_ ?_
       ·exact ⟨Nat.zero_le _,by simp⟩
       ·exact aU
       ·exact fun w hw=>hw
       ·intro k c6 _ dO
        obtain ⟨MP,Tj⟩:=c6
        have hmr:=fun h=>(Jn k h).le
        refine .sr fun _ eJ=>?_
        refine .v (.lss rfl rfl) (.nt eJ ?_)
        refine .seq fun _ eY=>?_
        refine .aA rfl (fun iz=>?_) (fun iz=>?_)
        ·refine .skip ?_
         refine .ab (eY _ ?_)
         refine .seq fun _ eI=>?_
         refine .block ?_
         refine .sr fun _ fH=>?_
         refine .mv rfl (.as rfl (.nt fH ?_))
         refine .seq fun _ gq=>?_
         refine .seq fun _ iT=>?_
         refine .quiet mixed cx ?_
         refine .v (.fieldAddr eQ rfl) (.v (.aa lC rfl ax rfl) (.mv rfl ?_))
         refine .v (.iN kQ rfl rfl (hr:=(by exact a8))) ?_
         refine .v (.jD hY rfl (by exact a8) (by omega)) ?_
         refine .v (.aZ bX rfl (by exact .arg (Jn _ (by omega)))) ?_
         refine .v (.fieldAddr eQ rfl) (.v (.aa lC rfl ax rfl) (.mv rfl ?_))
         refine .v (.iN kQ rfl rfl (hr:=(by exact a8))) ?_
         refine .v (.jD hY rfl (by exact a8) (by omega)) ?_
         refine .v (.aZ bX rfl (by exact .arg (Q7 _ (by omega)))) ?_
         refine .v (.neq rfl rfl) (.nil (QK.fin ?_))
         refine .ab (iT _ ?_)
         refine .df rfl (fun gn=>?_) (fun gn=>?_)
         ·refine .sr fun _ iZ=>?_
          refine .as rfl (.nt iZ (.ret (.ae (.al (.ae (.ae (.al (.ae ?_))))))))
          refine .aG rfl rfl (fun w hw=>⟨_,_,?_,rfl,.of (hw.pk [])⟩)
          refine ⟨congrArg Value.bool ?_,rfl⟩
          symm;rw [decide_eq_false_iff_not];intro e;subst e
          omega
         ·refine .skip ?_
          refine .ab (gq _ ?_)
          refine .sr fun _ iS=>?_
          refine .v (.fieldAddr eQ rfl) (.v (.aa lC rfl ax rfl) (.mv rfl ?_))
          refine .v (.iN kQ rfl rfl (hr:=(by exact a8))) ?_
          refine .v (.jD hY rfl (by exact a8) (by omega)) ?_
          refine .v (.aZ bX rfl (by exact .arg (Jn _ (by omega)))) ?_
          refine .mv rfl (.nt iS (.block ?_))
          refine .bE (X:=Nat) [(2,_),(3,_),(6,_),(58,_),(59,_),(80,_)] (fun j=>[(81,.int .i64 (j:Int))]) (fun j=>[box eu 32 4 [.int .i64 a.L,.int .i64 a.s,uF,uN],box ga 32 4 [.int .i64 b.L,.int .i64 b.s,vF,vN]]) (fun j=>j≤(a.nx.getD k []).length∧(a.nx.getD k []).take j=(b.nx.getD k []).take j) (fun j=>(a.nx.getD k []).length - j) (0) aU ?_ ?_ ?_ ?_
          ·exact ⟨Nat.zero_le _,by simp⟩
          ·exact aU
          ·exact fun w hw=>hw
          ·intro j lO _ jy
           obtain ⟨hj,TO⟩:=lO
           have aa5:=hmr (by omega)
           refine .sr fun _ kf=>?_
           refine .v (.lss rfl rfl) (.nt kf ?_)
           refine .seq fun _ kB=>?_
           refine .aA rfl (fun qp=>?_) (fun qp=>?_)
           ·refine .skip ?_
            refine .ab (kB _ ?_)
            refine .seq fun _ ke=>?_
            refine .block ?_
            refine .sr fun _ nj=>?_
            refine .mv rfl (.as rfl (.nt nj ?_))
            refine .seq fun _ lE=>?_
            refine .quiet mixed cx ?_
            refine .v (.fieldAddr eQ rfl) (.v (.aa lC rfl ax rfl) (.mv rfl ?_))
            refine .v (.iN kQ rfl rfl (hr:=(by exact a8))) ?_
            refine .v (.jD hY rfl (by exact a8) (by omega)) ?_
            refine .mv rfl ?_
            refine .v (.iN bX rfl rfl (hr:=(by exact .arg (Jn _ (by omega))))) ?_
            refine .v (.ff cQ rfl (by exact .arg (Jn _ (by omega))) (by omega)) ?_
            refine .v (.fieldAddr eQ rfl) (.v (.aa lC rfl ax rfl) (.mv rfl ?_))
            refine .v (.iN kQ rfl rfl (hr:=(by exact a8))) ?_
            refine .v (.jD hY rfl (by exact a8) (by omega)) ?_
            refine .mv rfl ?_
            refine .v (.iN bX rfl rfl (hr:=(by exact .arg (Q7 _ (by omega))))) ?_
            refine .v (.ff cQ rfl (by exact .arg (Q7 _ (by omega))) (by omega)) ?_
            refine .v (.neq rfl rfl) (.nil (QK.fin ?_))
            refine .ab (lE _ ?_)
            refine .df rfl (fun ka=>?_) (fun ka=>?_)
            ·refine .sr fun _ oG=>?_
             refine .as rfl (.nt oG (.ret (.al (.ae (.ae (.al (.al (.ae (.ae (.al (.ae ?_)))))))))))
             refine .aG rfl rfl (fun w hw=>⟨_,_,?_,rfl,.of (hw.pk [])⟩)
             refine ⟨congrArg Value.bool ?_,rfl⟩
             symm;rw [decide_eq_false_iff_not];intro e;subst e
             omega
            ·refine .skip (.ag ?_)
             refine .ab (ke _ ?_)
             refine .region ?_
             refine .v (.add rfl rfl (by omega)) ?_
             refine .mv rfl (.nil ?_)
             refine .ab (jy _ _ (j+1) ⟨by omega,(ux 0 (by omega) j (by omega) TO).2 (by omega)⟩ (by omega) (aU) (fun w hw=>hw))
           ·refine .exit (.ai (.ai (.ar (.ag ?_))))
            refine .ab (eI _ ?_)
            refine .region ?_
            refine .v (.add rfl rfl (by omega)) ?_
            refine .mv rfl (.nil ?_)
            refine .ab (dO _ _ (k+1) ⟨by omega,(ux [] hlN k (by omega) Tj).2 (by have e:j=(a.nx.getD k []).length:=(by omega);have h1:=TO;rw [e,List.take_length] at h1;rw [h1];rw [show (a.nx.getD k []).length=(b.nx.getD k []).length by omega,List.take_length])⟩ (by omega) (aU) (fun w hw=>hw))
        ·refine .exit (.ai (.ai (.ar ?_)))
         refine .ab (dE _ ?_)
         refine .sr fun _ wg=>?_
         refine .as rfl (.nt wg (.ret ?_))
         refine .aG rfl rfl (fun w hw=>⟨_,_,?_,rfl,.of (hw.pk [])⟩)
         refine ⟨congrArg Value.bool ?_,rfl⟩
         symm;rw [decide_eq_true_eq]
         rw [show k=a.nx.length by omega,List.take_length,hlN,List.take_length] at Tj
         have h3:=ZV
         obtain ⟨aL,aS,af,an⟩:=a
         obtain ⟨bL,bS,bf,bn⟩:=b
         simp only at hL hs h3 Tj
         subst hL hs h3 Tj;rfl
end Go.Proofs.YtbibnpdnmmgacaaGreatDoor
namespace Go.Proofs.YtbibnpdnmmgacaaGreatDoor
open Go.Sx Go.RowKit
end Go.Proofs.YtbibnpdnmmgacaaGreatDoor
namespace Go.Proofs.YtbibnpdnmmgacaaGreatDoor
open Go.Sx Go.RowKit
theorem Is {ks:List Ex} {i:Nat} (h:i<ks.length):ks.getD i default∈ks:=by rw [List.getD_eq_getElem?_getD,List.getElem?_eq_getElem h];exact List.getElem_mem h
def Yk (e:Ex):Prop:=∀ (w:World) (s:Value) (h:dy (bD (fun _=>False) w) s e.kids),aK Tryz.prog 106 [.agg #[.int .i64 e.op,.int .i64 e.lt,s]] w (fun r o=>r = .bool (mX e)∧o=[])
set_option maxHeartbeats 1000000 in
theorem H6 (e:Ex) (ih:∀ i,i<e.kids.length→Yk (e.kids.getD i default)) (w:World) (s:Value) (h:dy (bD (fun _=>False) w) s e.kids):aK Tryz.prog 106 [.agg #[.int .i64 e.op,.int .i64 e.lt,s]] w (fun r o=>r = .bool (mX e)∧o=[]):=by
 obtain ⟨ss,hl,hx,hk⟩:=h.inv
 have hr:=hx.rd
 have hm:=hr.le
 have sk:=h.sl
 refine aC Tryz.func106 rfl (aT rfl) ?_
 refine .sr fun _ bl=>?_
 refine .cS (E:=24) (cs:=[.int .i64 e.op,.int .i64 e.lt,s]) rfl rfl rfl trivial rfl (fun jV=>?_)
 refine .as rfl (.nt bl ?_)
 refine .sr fun _ bg=>?_
 refine .v (.fieldAddr cP rfl) (.v (.aa cQ rfl ax rfl) (.v (.eql rfl rfl) (.mv rfl ?_)))
 refine .bQ (g:=6) rfl (fun a7=>?_) (fun a7=>?_)
 ·have dP:=a7
  try simp only [bs] at dP
  refine .pass rfl rfl (a7) rfl ?_
  refine .pass rfl rfl (a7) rfl ?_
  refine .pass rfl rfl (a7) rfl ?_
  refine .v (.bw rfl (a7) rfl) (.mv rfl ?_)
  refine .pass rfl rfl rfl rfl ?_
  refine .pass rfl rfl rfl rfl ?_
  refine .pass rfl rfl rfl rfl ?_
  refine .v (.bw rfl (rfl) rfl) (.as rfl (.nt bg (.ret ?_)))
  refine .aG rfl rfl (fun w hw=>⟨_,_,?_,rfl,.of (hw.pk [])⟩)
  refine ⟨congrArg Value.bool ?_,rfl⟩
  rw [Aq]
  (simp_all;done)
 ·have dP:=a7
  try simp only [bs] at dP
  refine .val _ (.fieldAddr cP rfl) ⟨_,rfl,gB a7⟩ rfl ?_
  refine .val _ (.aa cQ rfl ax rfl) ⟨_,rfl,gB a7⟩ rfl ?_
  refine .val _ (.eql rfl rfl) ⟨_,rfl,gB a7⟩ rfl ?_
  refine .v (.cH rfl (a7) rfl) (.mv rfl ?_)
  refine .bQ (g:=11) rfl (fun eN=>?_) (fun eN=>?_)
  ·have nI:=eN
   try simp only [bs] at nI
   refine .pass rfl rfl (eN) rfl ?_
   refine .pass rfl rfl (eN) rfl ?_
   refine .pass rfl rfl (eN) rfl ?_
   refine .v (.bw rfl (eN) rfl) (.as rfl (.nt bg (.ret ?_)))
   refine .aG rfl rfl (fun w hw=>⟨_,_,?_,rfl,.of (hw.pk [])⟩)
   refine ⟨congrArg Value.bool ?_,rfl⟩
   rw [Aq]
   (simp_all;done)
  ·have nI:=eN
   try simp only [bs] at nI
   refine .val _ (.fieldAddr bM rfl) ⟨_,rfl,gB eN⟩ rfl ?_
   refine .val _ (.aa du rfl ax rfl) ⟨_,rfl,gB eN⟩ rfl ?_
   refine .call Cw rfl (fun w hw=>lx w 106 P9 mX s e.kids ss hl (fun i hi=>(hk i hi).sl) (hr.mono fun b _ bZ=>⟨id,hw.frame.block b bZ id⟩) (fun w' bI i hi=>ih i hi w' _ ((hk i hi).frame (hw.frame.step bI (fun _ h _=>h))))) ⟨_,rfl,gB eN⟩ rfl ?_
   rintro r o ⟨rfl,rfl⟩
   refine .v (.cH rfl (eN) rfl) (.as rfl (.nt bg (.ret ?_)))
   refine .aG rfl rfl (fun w hw=>⟨_,_,?_,rfl,.of (hw.pk [])⟩)
   refine ⟨congrArg Value.bool ?_,rfl⟩
   rw [Aq]
   (simp_all;done)
theorem YC (e:Ex):Yk e:=Ex.ind (P:=Yk) (fun e ih w s h=>H6 e ih w s h) e
theorem Gn (w:World) (e:Ex) (s:Value) (n:Int) (h:dy (bD (fun _=>False) w) s e.kids):aK Tryz.prog 53 [.agg #[.int .i64 e.op,.int .i64 e.lt,s],.int .i64 n] w (fun r o=>r = .int .i64 (if cg e n=0 then (if mX e=true then 4 else 0) else cg e n)∧o=[]):=by
 have sk:=h.sl
 refine aC Tryz.func53 rfl (aT rfl) ?_
 refine .sr fun _ bl=>?_
 refine .cS (E:=24) (cs:=[.int .i64 e.op,.int .i64 e.lt,s]) rfl rfl rfl trivial rfl (fun eu=>?_)
 refine .as rfl (.nt bl ?_)
 refine .seq fun _ bg=>?_
 refine .sr fun _ bW=>?_
 refine .v (.ak aM rfl ax rfl rfl) (.mv rfl ?_)
 refine .call Nf rfl (fun w hw=>vG w e s n (h.at hw)) trivial rfl ?_
 rintro r o ⟨rfl,rfl⟩
 refine .as rfl (.nt bW ?_)
 refine .sr fun _ cr=>?_
 refine .mv rfl (.v (.neq rfl rfl) (.nt cr ?_))
 refine .df rfl (fun bx=>?_) (fun bx=>?_)
 ·refine .sr fun _ cJ=>?_
  refine .mv rfl (.as rfl (.nt cJ (.ret (.ae ?_))))
  refine .aG rfl rfl (fun w hw=>⟨_,_,?_,rfl,.of (hw.pk [])⟩)
  refine ⟨congrArg (Value.int .i64) ?_,rfl⟩
  (simp_all;done)
 ·refine .skip ?_
  refine .ab (bg _ ?_)
  refine .seq fun _ cU=>?_
  refine .sr fun _ c7=>?_
  refine .v (.ak aM rfl ax rfl rfl) ?_
  refine .call P9 rfl (fun w hw=>YC e w s (h.at hw)) trivial rfl ?_
  rintro r o ⟨rfl,rfl⟩
  refine .nt c7 ?_
  refine .cond rfl (fun cB=>?_) (fun cB=>?_)
  ·try simp only [bs] at cB
   refine .sr fun _ dm=>?_
   refine .as rfl (.nt dm (.ret (.ae ?_)))
   refine .aG rfl rfl (fun w hw=>⟨_,_,?_,rfl,.of (hw.pk [])⟩)
   refine ⟨congrArg (Value.int .i64) ?_,rfl⟩
   (simp_all;done)
  ·try simp only [bs] at cB
   refine .skip ?_
   refine .ab (cU _ ?_)
   refine .sr fun _ dD=>?_
   refine .as rfl (.nt dD (.ret ?_))
   refine .aG rfl rfl (fun w hw=>⟨_,_,?_,rfl,.of (hw.pk [])⟩)
   refine ⟨congrArg (Value.int .i64) ?_,rfl⟩
   (simp_all;done)
def Yi (e:Ex):Prop:=∀ (w:World) (s:Value) (h:dy (bD (fun _=>False) w) s e.kids) (hz:dt e≤1000),aK Tryz.prog 54 [.agg #[.int .i64 e.op,.int .i64 e.lt,s]] w (fun r o=>aB r∧o=[row r 3 1 (bK e).length ((bK e).map (Value.int .i64))])
set_option maxHeartbeats 1000000 in
theorem EZ (e:Ex) (ih:∀ i,i<e.kids.length→Yi (e.kids.getD i default)) (w:World) (s:Value) (h:dy (bD (fun _=>False) w) s e.kids) (hz:dt e≤1000):aK Tryz.prog 54 [.agg #[.int .i64 e.op,.int .i64 e.lt,s]] w (fun r o=>aB r∧o=[row r 3 1 (bK e).length ((bK e).map (Value.int .i64))]):=by
 obtain ⟨ss,hl,hx,hk⟩:=h.inv
 have hr:=hx.rd
 have hm:=hr.le
 have sk:=h.sl
 refine aC Tryz.func54 rfl (aT rfl) ?_
 refine .sr fun _ bl=>?_
 refine .cS (E:=24) (cs:=[.int .i64 e.op,.int .i64 e.lt,s]) rfl rfl rfl trivial rfl (fun jV=>?_)
 refine .as rfl (.nt bl ?_)
 refine .seq fun _ bg=>?_
 refine .sr fun _ bW=>?_
 refine .v (.fieldAddr cP rfl) (.v (.aa cQ rfl ax rfl) (.v (.eql rfl rfl) (.nt bW ?_)))
 refine .aA rfl (fun bx=>?_) (fun bx=>?_)
 ·refine .sr fun _ cr=>?_
  refine .v (.fieldAddr gr rfl) (.v (.aa cQ rfl ax rfl) ?_)
  refine .lit (xs:=[.tmp 10]) bX uL rfl rfl rfl (by simp [Value.cells]) (by decide) (by decide) trivial rfl (fun lv=>?_)
  refine .shape 1 rfl (fun BP=>?_)
  refine .as rfl (.nt cr (.ret (.ae ?_)))
  refine .aG rfl rfl (fun w hw=>⟨_,_,?_,rfl,.of (hw.pk [1])⟩)
  have e1:bK e=[e.lt]:=by rw [pH,if_pos (by simpa using bx)]
  rw [e1]
  exact ⟨BP,rfl⟩
 ·refine .skip ?_
  refine .ab (bg _ ?_)
  refine .sr fun _ cJ=>?_
  refine .as rfl (.nt cJ ?_)
  refine .seq fun _ cU=>?_
  refine .sr fun _ c7=>?_
  refine .v (.fieldAddr bM rfl) (.v (.aa du rfl ax rfl) (.v (.aZ aR rfl a8) (.mv rfl (.nt c7 (.block ?_)))))
  refine .bE (X:=Nat × Value) [(13,_),(14,_)] (fun x=>[(3,x.2),(15,.int .i64 (x.1:Int))]) (fun x=>[row x.2 3 1 (de (e.kids.take x.1)).length ((de (e.kids.take x.1)).map (Value.int .i64)),box jV 24 3 [.int .i64 e.op,.int .i64 e.lt,s]]) (fun x=>x.1≤e.kids.length∧aB x.2) (fun x=>e.kids.length - x.1) ((0,.slice none 0 0)) aU ?_ ?_ ?_ ?_
  ·exact ⟨Nat.zero_le _,cq⟩
  ·exact aU
  ·exact fun w hw=>by have h:=hw.ghost 3 1;exact h.pk [1,0]
  ·intro x aV _ dm
   refine .sr fun _ dD=>?_
   refine .v (.lss rfl rfl) (.nt dD ?_)
   refine .seq fun _ bJ=>?_
   refine .aA rfl (fun cB=>?_) (fun cB=>?_)
   ·have ik:x.1<e.kids.length:=by omega
    have Wp:=(hk x.1 ik).sl
    have XX:=uc e.kids x.1
    have WS:=A5 e.kids
    have hb3:=jc e
    have hb4:=jO (Is ik)
    have hb5:=An (e.kids.getD x.1 default)
    refine .skip ?_
    refine .ab (bJ _ ?_)
    refine .seq fun _ bP=>?_
    refine .block ?_
    refine .sr fun _ ct=>?_
    refine .v (.iN aR rfl rfl) ?_
    refine .v (.da aM rfl a8 (by assumption) rfl (by omega)) ?_
    refine .alloc cC rfl rfl trivial rfl (fun D4=>?_)
    refine .ah 2 (us:=[.int .i64 (e.kids.getD x.1 default).op,.int .i64 (e.kids.getD x.1 default).lt,ss.getD x.1 undef]) (cs':=[.int .i64 (e.kids.getD x.1 default).op,.int .i64 (e.kids.getD x.1 default).lt,ss.getD x.1 undef]) rfl cy rfl rfl rfl rfl aJ (aT rfl) rfl trivial ?_
    refine .nt ct ?_
    refine .region ?_
    refine .mv rfl (.v (.ak aM rfl ax rfl rfl) ?_)
    refine .call UI rfl (fun w hw=>ih x.1 ik w _ ((hk x.1 ik).at hw) (by omega)) trivial rfl ?_
    rintro r o ⟨sr,rfl⟩
    refine .gA 0 rfl bX uL rfl (by decide) rfl rfl rfl (cR.own 3 rfl) (CQ _ (fun _=>rfl) _) (by omega) (by omega) trivial rfl (fun va=>?_)
    refine .shape 0 rfl (fun Mn=>?_)
    refine .as rfl (.nil (.ag ?_))
    refine .ab (bP _ ?_)
    refine .region ?_
    refine .v (.add rfl rfl (by omega)) ?_
    refine .mv rfl (.nil ?_)
    refine .ab (dm _ _ ((x.1+1,va)) ⟨by dsimp only;omega,Mn⟩ (by dsimp only;omega) (aU) (fun w hw=>by rw [ud ik,List.length_append,List.map_append];exact hw.pk [0,1]))
   ·have ik:x.1=e.kids.length:=by omega
    refine .exit (.ai (.ai (.ar ?_)))
    refine .ab (cU _ ?_)
    refine .sr fun _ cK=>?_
    refine .mv rfl (.as rfl (.nt cK (.ret ?_)))
    refine .aG rfl rfl (fun w hw=>⟨_,_,?_,rfl,.of (hw.pk [0])⟩)
    have e1:bK e=de e.kids:=by rw [pH,if_neg (by simpa using bx)]
    rw [e1]
    rw [ik,List.take_length]
    exact ⟨aV.2,rfl⟩
theorem U8 (e:Ex):Yi e:=Ex.ind (P:=Yi) (fun e ih w s h hz=>EZ e ih w s h hz) e
end Go.Proofs.YtbibnpdnmmgacaaGreatDoor
namespace Go.Proofs.YtbibnpdnmmgacaaGreatDoor
open Go.Sx Go.RowKit
theorem AG {n:Int} {e:Ex} (h:dg n e=true) (ho:e.op=7∨e.op=8):e.kids.length=1:=by
 obtain ⟨op,lt,ks⟩:=e
 have ho:op=7∨op=8:=ho
 rcases fh h with ⟨h3,_⟩ | ⟨_,(⟨h3,_⟩ | ⟨h3,_⟩ | ⟨_,h3,_⟩)⟩
 ·omega
 ·omega
 ·omega
 ·exact h3
theorem On {ks:List Ex} (h:ks.length=1):de ks=bK (ks.getD 0 default):=by
 match ks,h with
 | [k],_=>simp only [de,List.append_nil];rfl
theorem KQ {ks:List Ex} {s:PS} (h:ks.length=1):tr ks s=(((aQ (ks.getD 0 default) s).1.1,(aQ (ks.getD 0 default) s).1.2.1,true),((aQ (ks.getD 0 default) s).2.1,oL (aQ (ks.getD 0 default) s).2.2 (aQ (ks.getD 0 default) s).1.2.1 (aQ (ks.getD 0 default) s).1.1)):=by
 match ks,h with
 | [k],_=>rw [tr];rfl
set_option maxHeartbeats 1000000 in
theorem KN (w:World) (F:Nat→Prop) (pb:Nat) (v:Value) (N c:Nat) (ba:List cF) (hN:ba.length=N) (vY:N≤64) (sv:aB v) (hT:vp w) (hF:¬ F 0) (hA:(bh [box pb 92 2 [.int .i64 ((c:Nat):Int),v],row v 42 1 N ((ba).map uv)]).holds w F) (nodes next:cF) (hn:∀ i,nodes.getLsbD i=true→i<N):ck Tryz.prog 107 [.pointer (some ⟨pb,0,none⟩),uv nodes,uv next] w F (fun r A o=>A=bh [box pb 92 2 [.int .i64 ((c:Nat):Int),v],row v 42 1 N ((oL ba nodes next).map uv)]∧o=[]):=by
 have Fz:=mD nodes
 refine dW Tryz.func107 rfl (aT rfl) hA ?_
 refine .sr fun _ bl=>?_
 refine .mv rfl ?_
 refine .call Rw rfl (fun w hw=>tU w nodes (hT.at hw hF)) trivial rfl ?_
 rintro mv o ⟨B0,rfl⟩
 refine .v (.aZ bX rfl a8) (.mv rfl (.nt bl (.block ?_)))
 refine .bE (X:=Nat) [(0,_),(2,_),(9,_),(10,_)] (fun k=>[(11,.int .i64 (k:Int))]) (fun k=>[box pb 92 2 [.int .i64 ((c:Nat):Int),v],row v 42 1 N ((j0 next ba ((c5 nodes).take k)).map uv),row mv 3 1 (c5 nodes).length ((mI (c5 nodes)).map (Value.int .i64))]) (fun k=>k≤(c5 nodes).length) (fun k=>(c5 nodes).length - k) (0) aU ?_ ?_ ?_ ?_
 ·omega
 ·exact aU
 ·exact fun w hw=>hw
 ·intro k aV _ bg
  refine .sr fun _ bW=>?_
  refine .v (.lss rfl rfl) (.nt bW ?_)
  refine .seq fun _ cr=>?_
  refine .aA rfl (fun bx=>?_) (fun bx=>?_)
  ·have XM:k<(c5 nodes).length:=by omega
   have hq:(c5 nodes).getD k 0<N:=hn _ (jq.1 (by rw [List.getD_eq_getElem?_getD,List.getElem?_eq_getElem XM];exact List.getElem_mem XM))
   have yP:=(jL next ((c5 nodes).take k) ba).trans hN
   refine .skip ?_
   refine .ab (cr _ ?_)
   refine .seq fun _ cJ=>?_
   refine .block ?_
   refine .sr fun _ cU=>?_
   refine .v (.iN bX rfl rfl) ?_
   refine .val (.int .i64 (((c5 nodes).getD k 0:Nat):Int)) (.iW (.ff cQ rfl a8 (by rw [Et];omega)) (congrArg (Value.int .i64) (Eu (by omega)))) trivial rfl ?_
   refine .as rfl (.nt cU ?_)
   refine .region ?_
   refine .mv rfl (.v (.nilCheck rfl) (.v (.fieldAddr EA rfl) (.v (.aa tw rfl ax rfl) (.mv rfl (.v (.iN lB rfl rfl) ?_)))))
   refine .v (.rS iY rfl a8 (by omega)) ?_
   refine .mv rfl (.v (.IZ rfl rfl) (.v (.iN lB rfl rfl) ?_))
   refine .di 1 rfl zX rfl rfl rfl rfl (by omega) (cs':=((j0 next ba ((c5 nodes).take (k+1))).map uv)) ((by rw [E8 XM,List.map_set])) trivial ?_
   refine .nil (.ag ?_)
   refine .ab (cJ _ ?_)
   refine .region ?_
   refine .v (.add rfl rfl (by omega)) ?_
   refine .mv rfl (.nil ?_)
   refine .ab (bg _ _ (k+1) (by omega) (by omega) (aU) (fun w hw=>hw))
  ·refine .exit (.ai (.ai (.ar ?_)))
   refine .jz [] rfl (.nil) (fun w hw=>⟨_,_,_,?_,rfl,kq.ez (hw.pk [0,1])⟩)
   rw [show (c5 nodes).take k=(c5 nodes) from List.take_of_length_le (by omega)]
   exact ⟨rfl,rfl⟩
def RF (e:Ex):Prop:=∀ (w:World) (F:Nat→Prop) (pb:Nat) (v:Value) (N c:Nat) (ba:List cF) (hN:ba.length=N) (vY:N≤64) (sv:aB v) (hT:vp w) (hF:¬ F 0) (hA:(bh [box pb 92 2 [.int .i64 ((c:Nat):Int),v],row v 42 1 N ((ba).map uv)]).holds w F) (s:Value) (h:dy (bD F w) s e.kids) (hz:c+(bK e).length<N) (Hl:dg 6 e=true),ck Tryz.prog 55 [.pointer (some ⟨pb,0,none⟩),.agg #[.int .i64 e.op,.int .i64 e.lt,s]] w F (fun r A o=>r = .agg #[uv (aQ e (c,ba)).1.1,uv (aQ e (c,ba)).1.2.1,.bool (aQ e (c,ba)).1.2.2]∧A=bh [box pb 92 2 [.int .i64 (((aQ e (c,ba)).2.1:Nat):Int),v],row v 42 1 N (((aQ e (c,ba)).2.2).map uv)]∧o=[])
set_option maxHeartbeats 4000000 in
theorem EU (e:Ex) (ih:∀ i,i<e.kids.length→RF (e.kids.getD i default)) (w:World) (F:Nat→Prop) (pb:Nat) (v:Value) (N c:Nat) (ba:List cF) (hN:ba.length=N) (vY:N≤64) (sv:aB v) (hT:vp w) (hF:¬ F 0) (hA:(bh [box pb 92 2 [.int .i64 ((c:Nat):Int),v],row v 42 1 N ((ba).map uv)]).holds w F) (s:Value) (h:dy (bD F w) s e.kids) (hz:c+(bK e).length<N) (Hl:dg 6 e=true):ck Tryz.prog 55 [.pointer (some ⟨pb,0,none⟩),.agg #[.int .i64 e.op,.int .i64 e.lt,s]] w F (fun r A o=>r = .agg #[uv (aQ e (c,ba)).1.1,uv (aQ e (c,ba)).1.2.1,.bool (aQ e (c,ba)).1.2.2]∧A=bh [box pb 92 2 [.int .i64 (((aQ e (c,ba)).2.1:Nat):Int),v],row v 42 1 N (((aQ e (c,ba)).2.2).map uv)]∧o=[]):=by
 obtain ⟨ss,hl,hx,hk⟩:=h.inv
 have hr:=hx.rd
 have hm:=hr.le
 have Xe:=h.sl
 refine cu Tryz.func55 rfl (aT rfl) hA ?_
 refine .sr fun _ bl=>?_
 refine .cS (E:=24) (cs:=[.int .i64 e.op,.int .i64 e.lt,s]) rfl rfl rfl trivial rfl (fun ga=>?_)
 refine .alloc Eh rfl rfl trivial rfl (fun iD=>?_)
 refine .nt bl ?_
 refine .seq fun _ bg=>?_
 refine .sr fun _ bW=>?_
 refine .v (.fieldAddr cP rfl) (.v (.aa cQ rfl ax rfl) (.nt bW (.block ?_)))
 refine .sr fun _ cr=>?_
 refine .v (.eql rfl rfl) (.as rfl (.nt cr ?_))
 refine .aA rfl (fun bx=>?_) (fun bx=>?_)
 ·refine .sr fun _ cJ=>?_
  refine .v (.build (parts:=[(2,.const (.bool true))]) (cs:=#[uv 0,uv 0,.bool true]) rfl (by kernel_rfl)) ?_
  refine .ah 2 (us:=[uv 0,uv 0,.bool true]) (cs':=[uv 0,uv 0,.bool true]) rfl tt rfl rfl rfl rfl aJ (aT rfl) rfl trivial ?_
  refine .nt cJ (.ret (.al (.ae ?_)))
  refine .cO [.cell 4 94] rfl (.cons (.cell Af rfl ax rfl rfl) (.nil)) (fun w hw=>⟨_,_,_,?_,rfl,.of (hw.pk [0])⟩)
  rw [iA e (c,ba),if_pos (by simpa using bx)]
  exact ⟨rfl,rfl,rfl⟩
 ·refine .sr fun _ cU=>?_
  refine .v (.eql rfl rfl) (.as rfl (.nt cU ?_))
  refine .aA rfl (fun cB=>?_) (fun cB=>?_)
  ·refine .mo rfl ?_
   have hle:bK e=[e.lt]:=by rw [pH,if_pos (by simpa using cB)]
   rw [hle] at hz
   have hz1:c+1<N:=hz
   refine .sr fun _ c7=>?_
   refine .mv rfl (.v (.nilCheck rfl) (.v (.fieldAddr Ar rfl) (.v (.aa cQ rfl ax rfl) ?_)))
   refine .v (.HI (((c+1:Nat):Int)) rfl rfl (by omega) (by omega)) ?_
   refine .v (.nilCheck rfl) (.v (.fieldAddr Ar rfl) ?_)
   refine .ah 0 (us:=[.int .i64 ((c+1:Nat):Int)]) (cs':=[.int .i64 ((c+1:Nat):Int),v]) rfl tf rfl rfl rfl rfl aJ (aT rfl) rfl trivial ?_
   refine .nt c7 ?_
   refine .seq fun _ dm=>?_
   try (conv=>enter [2,2];simp only [cE])
   refine .held 11 mixed ?_
   refine .F 0 11 12 1 rfl (.move rfl) trivial ?_
   refine .F 1 10 12 3 rfl (.nilCheck rfl) trivial ?_
   refine .F 2 9 12 7 rfl (.fieldAddr Ar rfl) trivial ?_
   refine .F 3 8 12 15 rfl (.aa cQ rfl ax rfl) trivial ?_
   refine .F 4 7 12 31 rfl (.D8 (a:=1) rfl rfl (by omega)) trivial ?_
   refine .F 5 6 12 63 rfl (.move rfl) trivial ?_
   refine .F 6 5 12 127 rfl (.nilCheck rfl) trivial ?_
   refine .F 7 4 12 255 rfl (.fieldAddr Ar rfl) trivial ?_
   refine .F 8 3 12 511 rfl (.aa cQ rfl ax rfl) trivial ?_
   refine .F 9 2 12 1023 rfl (.D8 (a:=1) rfl rfl (by omega)) trivial ?_
   refine .F 10 1 12 2047 rfl (.build (parts:=[(0,.tmp 32),(1,.tmp 37)]) (cs:=#[uv (bit ((c+1:Nat):Int)),uv (bit ((c+1:Nat):Int)),.bool false]) rfl (by kernel_rfl)) trivial ?_
   refine .O 11 0 12 4095 rfl ?_
   refine .ah 3 (us:=[uv (bit ((c+1:Nat):Int)),uv (bit ((c+1:Nat):Int)),.bool false]) (cs':=[uv (bit ((c+1:Nat):Int)),uv (bit ((c+1:Nat):Int)),.bool false]) rfl tt rfl rfl rfl rfl aJ (aT rfl) rfl trivial ?_
   refine .nil ?_
   try (conv=>enter [2,2];simp only [cE])
   refine ay.ir 12 cx rfl cx ?_
   refine .nil ?_
   refine .fu ?_
   refine .ab (dm _ ?_)
   refine .ret (.al (.ae ?_))
   refine .own' [bh [box pb 92 2 [.int .i64 ((c+1:Nat):Int),v],row v 42 1 N ((ba).map uv)],box iD 94 3 [uv (bit ((c+1:Nat):Int)),uv (bit ((c+1:Nat):Int)),.bool false]] (fun w hw=>by have h:=HW.fU (l:=[_,_]) (own:=[_]) (hw.pk [0,1,3]);exact h) ?_
   refine .cO [.cell 4 94] rfl (.cons (.cell Af rfl ax rfl rfl) (.nil)) (fun w hw=>⟨_,_,_,?_,rfl,.of (hw.pk [0])⟩)
   rw [iA e (c,ba),if_neg (by simpa using bx),if_pos (by simpa using cB)]
   exact ⟨rfl,rfl,rfl⟩
  ·refine .sr fun _ dD=>?_
   refine .v (.eql rfl rfl) (.as rfl (.nt dD ?_))
   refine .aA rfl (fun cZ=>?_) (fun cZ=>?_)
   ·refine .sr fun _ bJ=>?_
    refine .alloc Eh rfl rfl trivial rfl (fun D4=>?_)
    refine .nt bJ ?_
    refine .seq fun _ bP=>?_
    refine .sr fun _ ct=>?_
    refine .v (.fieldAddr bM rfl) (.v (.aa du rfl ax rfl) (.v (.aZ aR rfl a8) (.mv rfl (.nt ct (.block ?_)))))
    refine .bE (X:=Nat) [(0,_),(4,_),(5,_),(42,_),(43,_)] (fun k=>[(44,.int .i64 (k:Int))]) (fun k=>[bh [box pb 92 2 [.int .i64 (((c3 (e.kids.take k) (0,0,false) (c,ba)).2.1:Nat):Int),v],row v 42 1 N (((c3 (e.kids.take k) (0,0,false) (c,ba)).2.2).map uv)],box ga 24 3 [.int .i64 e.op,.int .i64 e.lt,s],box iD 94 3 [uv 0,uv 0,.bool false],box D4 94 3 [uv (c3 (e.kids.take k) (0,0,false) (c,ba)).1.1,uv (c3 (e.kids.take k) (0,0,false) (c,ba)).1.2.1,.bool (c3 (e.kids.take k) (0,0,false) (c,ba)).1.2.2]]) (fun k=>k≤e.kids.length) (fun k=>e.kids.length - k) (0) aU ?_ ?_ ?_ ?_
    ·omega
    ·exact aU
    ·exact fun w hw=>hw
    ·intro k aV _ cK
     refine .sr fun _ cW=>?_
     refine .v (.lss rfl rfl) (.nt cW ?_)
     refine .seq fun _ c8=>?_
     refine .aA rfl (fun iz=>?_) (fun iz=>?_)
     ·have ik:k<e.kids.length:=by omega
      have sk:=(hk k ik).sl
      have XK:=uc e.kids (k+1)
      rw [ud ik,List.length_append] at XK
      have O8:¬ e.op=3:=by omega
      have hle:bK e=de e.kids:=by rw [pH,if_neg O8]
      rw [hle] at hz
      have vC:=AJ (e.kids.take k) (0,0,false) (c,ba) (by show c+_<64;omega) (fun i hi=>by rw [tB] at hi;cases hi)
      have IN:(c3 (e.kids.take k) (0,0,false) (c,ba)).2.1+(bK (e.kids.getD k default)).length<N:=by have h1:=vC.hi;dsimp only at h1;omega
      have Ht:=qW (e.kids.getD k default) (c3 (e.kids.take k) (0,0,false) (c,ba)).2 (by omega)
      refine .skip ?_
      refine .ab (c8 _ ?_)
      refine .seq fun _ dw=>?_
      refine .block ?_
      refine .sr fun _ dE=>?_
      refine .v (.iN aR rfl rfl) ?_
      refine .v (.da aM rfl a8 (by assumption) rfl (by omega)) ?_
      refine .alloc cC rfl rfl trivial rfl (fun oe=>?_)
      refine .ah 4 (us:=[.int .i64 (e.kids.getD k default).op,.int .i64 (e.kids.getD k default).lt,ss.getD k undef]) (cs':=[.int .i64 (e.kids.getD k default).op,.int .i64 (e.kids.getD k default).lt,ss.getD k undef]) rfl cy rfl rfl rfl rfl aJ (aT rfl) rfl trivial ?_
      refine .nt dE ?_
      refine .sr fun _ dR=>?_
      refine .mv rfl (.v (.ak aM rfl ax rfl rfl) ?_)
      refine .aY 0 rfl Nd rfl (fun w Fs hw hh bI bc=>ih k ik w (Fs 0) pb v N (c3 (e.kids.take k) (0,0,false) (c,ba)).2.1 (c3 (e.kids.take k) (0,0,false) (c,ba)).2.2 (vC.len.trans hN) vY sv (hT.at hw hF) (fun hb=>by rcases bc 0 0 hb with h | h;exact absurd hT.lt (Nat.not_lt.2 h);exact hF h) (hh.at_ 0 _ rfl) _ ((hk k ik).yi bI bc 0) IN (nr Hl ik)) trivial rfl ?_
      rintro r A o ⟨rfl,rfl,rfl⟩
      refine .alloc Eh rfl rfl trivial rfl (fun lP=>?_)
      refine .ah 5 (us:=[uv (aQ (e.kids.getD k default) (c3 (e.kids.take k) (0,0,false) (c,ba)).2).1.1,uv (aQ (e.kids.getD k default) (c3 (e.kids.take k) (0,0,false) (c,ba)).2).1.2.1,.bool (aQ (e.kids.getD k default) (c3 (e.kids.take k) (0,0,false) (c,ba)).2).1.2.2]) (cs':=[uv (aQ (e.kids.getD k default) (c3 (e.kids.take k) (0,0,false) (c,ba)).2).1.1,uv (aQ (e.kids.getD k default) (c3 (e.kids.take k) (0,0,false) (c,ba)).2).1.2.1,.bool (aQ (e.kids.getD k default) (c3 (e.kids.take k) (0,0,false) (c,ba)).2).1.2.2]) rfl tt rfl rfl rfl rfl aJ (aT rfl) rfl trivial ?_
      refine .nt dR ?_
      refine .region ?_
      refine .v (.fieldAddr oV rfl) (.v (.aa iY rfl ax rfl) (.v (.fieldAddr oV rfl) (.v (.aa iY rfl ax rfl) (.v (.IZ rfl rfl) (.v (.fieldAddr nA rfl) (.v (.aa iY rfl ax rfl) (.v (.fieldAddr nA rfl) ?_)))))))
      refine .v (.aa iY rfl ax rfl) (.v (.IZ rfl rfl) (.v (.fieldAddr lX rfl) (.v (.aa vk rfl ax rfl) (.mv rfl ?_))))
      refine .bQ (g:=63) rfl (fun gN=>?_) (fun gN=>?_)
      ·have ug:=gN
       try simp only [bs] at ug
       refine .pass rfl rfl (gN) rfl ?_
       refine .pass rfl rfl (gN) rfl ?_
       refine .v (.bw rfl (gN) rfl) ?_
       refine .v (.build (parts:=[(0,.tmp 55),(1,.tmp 60),(2,.tmp 66)]) (cs:=#[uv ((c3 (e.kids.take k) (0,0,false) (c,ba)).1.1 ||| (aQ (e.kids.getD k default) (c3 (e.kids.take k) (0,0,false) (c,ba)).2).1.1),uv ((c3 (e.kids.take k) (0,0,false) (c,ba)).1.2.1 ||| (aQ (e.kids.getD k default) (c3 (e.kids.take k) (0,0,false) (c,ba)).2).1.2.1),.bool true]) rfl (by kernel_rfl)) ?_
       refine .ah 3 (us:=[uv ((c3 (e.kids.take k) (0,0,false) (c,ba)).1.1 ||| (aQ (e.kids.getD k default) (c3 (e.kids.take k) (0,0,false) (c,ba)).2).1.1),uv ((c3 (e.kids.take k) (0,0,false) (c,ba)).1.2.1 ||| (aQ (e.kids.getD k default) (c3 (e.kids.take k) (0,0,false) (c,ba)).2).1.2.1),.bool true]) (cs':=[uv ((c3 (e.kids.take k) (0,0,false) (c,ba)).1.1 ||| (aQ (e.kids.getD k default) (c3 (e.kids.take k) (0,0,false) (c,ba)).2).1.1),uv ((c3 (e.kids.take k) (0,0,false) (c,ba)).1.2.1 ||| (aQ (e.kids.getD k default) (c3 (e.kids.take k) (0,0,false) (c,ba)).2).1.2.1),.bool true]) rfl tt rfl rfl rfl rfl aJ (aT rfl) rfl trivial ?_
       refine .nil (.ag ?_)
       refine .ab (dw _ ?_)
       refine .region ?_
       refine .v (.add rfl rfl (by omega)) ?_
       refine .mv rfl (.nil ?_)
       refine .ab (cK _ _ (k+1) (by omega) (by omega) (aU) (fun w hw=>by rw [y1 ik];simp only [v8];rw [gN];have h:=hw.pk [0,1,2,3];simpa using h))
      ·have ug:=gN
       try simp only [bs] at ug
       refine .val _ (.fieldAddr lX rfl) ⟨_,rfl,gB gN⟩ rfl ?_
       refine .val _ (.aa vk rfl ax rfl) ⟨_,rfl,gB gN⟩ rfl ?_
       refine .v (.cH rfl (gN) rfl) ?_
       refine .v (.build (parts:=[(0,.tmp 55),(1,.tmp 60),(2,.tmp 66)]) (cs:=#[uv ((c3 (e.kids.take k) (0,0,false) (c,ba)).1.1 ||| (aQ (e.kids.getD k default) (c3 (e.kids.take k) (0,0,false) (c,ba)).2).1.1),uv ((c3 (e.kids.take k) (0,0,false) (c,ba)).1.2.1 ||| (aQ (e.kids.getD k default) (c3 (e.kids.take k) (0,0,false) (c,ba)).2).1.2.1),.bool (aQ (e.kids.getD k default) (c3 (e.kids.take k) (0,0,false) (c,ba)).2).1.2.2]) rfl (by kernel_rfl)) ?_
       refine .ah 3 (us:=[uv ((c3 (e.kids.take k) (0,0,false) (c,ba)).1.1 ||| (aQ (e.kids.getD k default) (c3 (e.kids.take k) (0,0,false) (c,ba)).2).1.1),uv ((c3 (e.kids.take k) (0,0,false) (c,ba)).1.2.1 ||| (aQ (e.kids.getD k default) (c3 (e.kids.take k) (0,0,false) (c,ba)).2).1.2.1),.bool (aQ (e.kids.getD k default) (c3 (e.kids.take k) (0,0,false) (c,ba)).2).1.2.2]) (cs':=[uv ((c3 (e.kids.take k) (0,0,false) (c,ba)).1.1 ||| (aQ (e.kids.getD k default) (c3 (e.kids.take k) (0,0,false) (c,ba)).2).1.1),uv ((c3 (e.kids.take k) (0,0,false) (c,ba)).1.2.1 ||| (aQ (e.kids.getD k default) (c3 (e.kids.take k) (0,0,false) (c,ba)).2).1.2.1),.bool (aQ (e.kids.getD k default) (c3 (e.kids.take k) (0,0,false) (c,ba)).2).1.2.2]) rfl tt rfl rfl rfl rfl aJ (aT rfl) rfl trivial ?_
       refine .nil (.ag ?_)
       refine .ab (dw _ ?_)
       refine .region ?_
       refine .v (.add rfl rfl (by omega)) ?_
       refine .mv rfl (.nil ?_)
       refine .ab (cK _ _ (k+1) (by omega) (by omega) (aU) (fun w hw=>by rw [y1 ik];simp only [v8];rw [gN];have h:=hw.pk [0,1,2,3];simpa using h))
     ·have ik:k=e.kids.length:=by omega
      refine .exit (.ai (.ai (.ar ?_)))
      refine .ab (bP _ ?_)
      refine .sr fun _ dO=>?_
      refine .v (.ak Af rfl ax rfl rfl) ?_
      refine .ah 2 (us:=[uv (c3 (e.kids.take k) (0,0,false) (c,ba)).1.1,uv (c3 (e.kids.take k) (0,0,false) (c,ba)).1.2.1,.bool (c3 (e.kids.take k) (0,0,false) (c,ba)).1.2.2]) (cs':=[uv (c3 (e.kids.take k) (0,0,false) (c,ba)).1.1,uv (c3 (e.kids.take k) (0,0,false) (c,ba)).1.2.1,.bool (c3 (e.kids.take k) (0,0,false) (c,ba)).1.2.2]) rfl tt rfl rfl rfl rfl aJ (aT rfl) rfl trivial ?_
      refine .nt dO (.ret (.al (.ae ?_)))
      refine .cO [.cell 4 94] rfl (.cons (.cell Af rfl ax rfl rfl) (.nil)) (fun w hw=>⟨_,_,_,?_,rfl,.of (hw.pk [0])⟩)
      rw [ik,List.take_length] at *
      rw [iA e (c,ba),if_neg (by simpa using bx),if_neg (by simpa using cB),if_pos (by simpa using cZ)]
      exact ⟨rfl,rfl,rfl⟩
   ·refine .sr fun _ eJ=>?_
    refine .v (.eql rfl rfl) (.as rfl (.nt eJ ?_))
    refine .aA rfl (fun gn=>?_) (fun gn=>?_)
    ·refine .sr fun _ eY=>?_
     refine .v (.build (parts:=[(2,.const (.bool true))]) (cs:=#[uv 0,uv 0,.bool true]) rfl (by kernel_rfl)) ?_
     refine .alloc Eh rfl rfl trivial rfl (fun tn=>?_)
     refine .ah 3 (us:=[uv 0,uv 0,.bool true]) (cs':=[uv 0,uv 0,.bool true]) rfl tt rfl rfl rfl rfl aJ (aT rfl) rfl trivial ?_
     refine .nt eY ?_
     refine .seq fun _ eI=>?_
     refine .sr fun _ fH=>?_
     refine .v (.fieldAddr bM rfl) (.v (.aa du rfl ax rfl) (.v (.aZ aR rfl a8) (.mv rfl (.nt fH (.block ?_)))))
     refine .bE (X:=Nat) [(0,_),(4,_),(9,_),(74,_),(75,_)] (fun k=>[(76,.int .i64 (k:Int))]) (fun k=>[bh [box pb 92 2 [.int .i64 (((bT (e.kids.take k) (0,0,true) (c,ba)).2.1:Nat):Int),v],row v 42 1 N (((bT (e.kids.take k) (0,0,true) (c,ba)).2.2).map uv)],box ga 24 3 [.int .i64 e.op,.int .i64 e.lt,s],box iD 94 3 [uv 0,uv 0,.bool false],box tn 94 3 [uv (bT (e.kids.take k) (0,0,true) (c,ba)).1.1,uv (bT (e.kids.take k) (0,0,true) (c,ba)).1.2.1,.bool (bT (e.kids.take k) (0,0,true) (c,ba)).1.2.2]]) (fun k=>k≤e.kids.length) (fun k=>e.kids.length - k) (0) aU ?_ ?_ ?_ ?_
     ·omega
     ·exact aU
     ·exact fun w hw=>hw
     ·intro k c6 _ gq
      refine .sr fun _ iT=>?_
      refine .v (.lss rfl rfl) (.nt iT ?_)
      refine .seq fun _ iZ=>?_
      refine .aA rfl (fun qp=>?_) (fun qp=>?_)
      ·have ik:k<e.kids.length:=by omega
       have sk:=(hk k ik).sl
       have XK:=uc e.kids (k+1)
       rw [ud ik,List.length_append] at XK
       have O8:¬ e.op=3:=by omega
       have hle:bK e=de e.kids:=by rw [pH,if_neg O8]
       rw [hle] at hz
       have vC:=AL (e.kids.take k) (0,0,true) (c,ba) (by show c+_<64;omega) (fun i hi=>by rw [tB] at hi;cases hi)
       have IN:(bT (e.kids.take k) (0,0,true) (c,ba)).2.1+(bK (e.kids.getD k default)).length<N:=by have h1:=vC.hi;dsimp only at h1;omega
       have Ht:=qW (e.kids.getD k default) (bT (e.kids.take k) (0,0,true) (c,ba)).2 (by omega)
       refine .skip ?_
       refine .ab (iZ _ ?_)
       refine .seq fun _ iS=>?_
       refine .block ?_
       refine .sr fun _ jy=>?_
       refine .v (.iN aR rfl rfl) ?_
       refine .v (.da aM rfl a8 (by assumption) rfl (by omega)) ?_
       refine .alloc cC rfl rfl trivial rfl (fun ja=>?_)
       refine .ah 4 (us:=[.int .i64 (e.kids.getD k default).op,.int .i64 (e.kids.getD k default).lt,ss.getD k undef]) (cs':=[.int .i64 (e.kids.getD k default).op,.int .i64 (e.kids.getD k default).lt,ss.getD k undef]) rfl cy rfl rfl rfl rfl aJ (aT rfl) rfl trivial ?_
       refine .nt jy ?_
       refine .sr fun _ kf=>?_
       refine .mv rfl (.v (.ak aM rfl ax rfl rfl) ?_)
       refine .aY 0 rfl Nd rfl (fun w Fs hw hh bI bc=>ih k ik w (Fs 0) pb v N (bT (e.kids.take k) (0,0,true) (c,ba)).2.1 (bT (e.kids.take k) (0,0,true) (c,ba)).2.2 (vC.len.trans hN) vY sv (hT.at hw hF) (fun hb=>by rcases bc 0 0 hb with h | h;exact absurd hT.lt (Nat.not_lt.2 h);exact hF h) (hh.at_ 0 _ rfl) _ ((hk k ik).yi bI bc 0) IN (nr Hl ik)) trivial rfl ?_
       rintro r A o ⟨rfl,rfl,rfl⟩
       refine .alloc Eh rfl rfl trivial rfl (fun qk=>?_)
       refine .ah 5 (us:=[uv (aQ (e.kids.getD k default) (bT (e.kids.take k) (0,0,true) (c,ba)).2).1.1,uv (aQ (e.kids.getD k default) (bT (e.kids.take k) (0,0,true) (c,ba)).2).1.2.1,.bool (aQ (e.kids.getD k default) (bT (e.kids.take k) (0,0,true) (c,ba)).2).1.2.2]) (cs':=[uv (aQ (e.kids.getD k default) (bT (e.kids.take k) (0,0,true) (c,ba)).2).1.1,uv (aQ (e.kids.getD k default) (bT (e.kids.take k) (0,0,true) (c,ba)).2).1.2.1,.bool (aQ (e.kids.getD k default) (bT (e.kids.take k) (0,0,true) (c,ba)).2).1.2.2]) rfl tt rfl rfl rfl rfl aJ (aT rfl) rfl trivial ?_
       refine .nt kf ?_
       refine .sr fun _ kB=>?_
       refine .mv rfl (.v (.fieldAddr nA rfl) (.v (.aa iY rfl ax rfl) (.v (.fieldAddr oV rfl) (.v (.aa iY rfl ax rfl) ?_))))
       refine .aY 0 rfl P8 rfl (fun w Fs hw hh bI bc=>KN w (Fs 0) pb v N (aQ (e.kids.getD k default) (bT (e.kids.take k) (0,0,true) (c,ba)).2).2.1 (aQ (e.kids.getD k default) (bT (e.kids.take k) (0,0,true) (c,ba)).2).2.2 (Ht.len.trans (vC.len.trans hN)) vY sv (hT.at hw hF) (fun hb=>by rcases bc 0 0 hb with h | h;exact absurd hT.lt (Nat.not_lt.2 h);exact hF h) (hh.at_ 0 _ rfl) (bT (e.kids.take k) (0,0,true) (c,ba)).1.2.1 (aQ (e.kids.getD k default) (bT (e.kids.take k) (0,0,true) (c,ba)).2).1.1 (fun i hi=>by have h1:=vC.la i hi;have h2:=Ht.lo;have h3:=Ht.hi;omega)) trivial rfl ?_
       rintro r A o ⟨rfl,rfl⟩
       refine .nt kB ?_
       refine .D9 (X:=cF) [(0,_),(4,_),(9,_),(12,_),(74,_),(75,_),(76,_)] (fun u6=>[]) (fun u6=>[bh [box pb 92 2 [.int .i64 (((aQ (e.kids.getD k default) (bT (e.kids.take k) (0,0,true) (c,ba)).2).2.1:Nat):Int),v],row v 42 1 N ((oL (aQ (e.kids.getD k default) (bT (e.kids.take k) (0,0,true) (c,ba)).2).2.2 (bT (e.kids.take k) (0,0,true) (c,ba)).1.2.1 (aQ (e.kids.getD k default) (bT (e.kids.take k) (0,0,true) (c,ba)).2).1.1).map uv)],box ga 24 3 [.int .i64 e.op,.int .i64 e.lt,s],box iD 94 3 [uv 0,uv 0,.bool false],box tn 94 3 [uv u6,uv (bT (e.kids.take k) (0,0,true) (c,ba)).1.2.1,.bool (bT (e.kids.take k) (0,0,true) (c,ba)).1.2.2],box ja 24 3 [.int .i64 (e.kids.getD k default).op,.int .i64 (e.kids.getD k default).lt,ss.getD k undef],box qk 94 3 [uv (aQ (e.kids.getD k default) (bT (e.kids.take k) (0,0,true) (c,ba)).2).1.1,uv (aQ (e.kids.getD k default) (bT (e.kids.take k) (0,0,true) (c,ba)).2).1.2.1,.bool (aQ (e.kids.getD k default) (bT (e.kids.take k) (0,0,true) (c,ba)).2).1.2.2]]) (fun u6=>u6=if (bT (e.kids.take k) (0,0,true) (c,ba)).1.2.2=true then (bT (e.kids.take k) (0,0,true) (c,ba)).1.1 ||| (aQ (e.kids.getD k default) (bT (e.kids.take k) (0,0,true) (c,ba)).2).1.1 else (bT (e.kids.take k) (0,0,true) (c,ba)).1.1) aU (fun _ ke=>?_) (fun u6 hg=>?_)
       ·refine .sr fun _ nj=>?_
        refine .v (.fieldAddr lX rfl) (.v (.aa vk rfl ax rfl) (.nt nj ?_))
        refine .cond rfl (fun ka=>?_) (fun ka=>?_)
        ·try simp only [bs] at ka
         refine .region ?_
         refine .v (.fieldAddr oV rfl) (.v (.aa iY rfl ax rfl) (.v (.fieldAddr oV rfl) (.v (.aa iY rfl ax rfl) (.v (.IZ rfl rfl) (.v (.fieldAddr oV rfl) ?_)))))
         refine .ah 3 (us:=[uv ((bT (e.kids.take k) (0,0,true) (c,ba)).1.1 ||| (aQ (e.kids.getD k default) (bT (e.kids.take k) (0,0,true) (c,ba)).2).1.1)]) (cs':=[uv ((bT (e.kids.take k) (0,0,true) (c,ba)).1.1 ||| (aQ (e.kids.getD k default) (bT (e.kids.take k) (0,0,true) (c,ba)).2).1.1),uv (bT (e.kids.take k) (0,0,true) (c,ba)).1.2.1,.bool (bT (e.kids.take k) (0,0,true) (c,ba)).1.2.2]) rfl zX rfl rfl rfl rfl aJ (aT rfl) rfl trivial ?_
         refine .nil ?_
         refine .ab (ke _ _ (((bT (e.kids.take k) (0,0,true) (c,ba)).1.1 ||| (aQ (e.kids.getD k default) (bT (e.kids.take k) (0,0,true) (c,ba)).2).1.1)) (by rw [if_pos ka]) (aU) (fun w hw=>hw))
        ·try simp only [bs] at ka
         refine .skip ?_
         refine .ab (ke _ _ ((bT (e.kids.take k) (0,0,true) (c,ba)).1.1) (by rw [ka];rfl) (aU) (fun w hw=>hw))
       ·have WA:=hg
        refine .D9 (X:=cF) [(0,_),(4,_),(9,_),(12,_),(74,_),(75,_),(76,_)] (fun u7=>[]) (fun u7=>[bh [box pb 92 2 [.int .i64 (((aQ (e.kids.getD k default) (bT (e.kids.take k) (0,0,true) (c,ba)).2).2.1:Nat):Int),v],row v 42 1 N ((oL (aQ (e.kids.getD k default) (bT (e.kids.take k) (0,0,true) (c,ba)).2).2.2 (bT (e.kids.take k) (0,0,true) (c,ba)).1.2.1 (aQ (e.kids.getD k default) (bT (e.kids.take k) (0,0,true) (c,ba)).2).1.1).map uv)],box ga 24 3 [.int .i64 e.op,.int .i64 e.lt,s],box iD 94 3 [uv 0,uv 0,.bool false],box tn 94 3 [uv u6,uv u7,.bool (bT (e.kids.take k) (0,0,true) (c,ba)).1.2.2],box ja 24 3 [.int .i64 (e.kids.getD k default).op,.int .i64 (e.kids.getD k default).lt,ss.getD k undef],box qk 94 3 [uv (aQ (e.kids.getD k default) (bT (e.kids.take k) (0,0,true) (c,ba)).2).1.1,uv (aQ (e.kids.getD k default) (bT (e.kids.take k) (0,0,true) (c,ba)).2).1.2.1,.bool (aQ (e.kids.getD k default) (bT (e.kids.take k) (0,0,true) (c,ba)).2).1.2.2]]) (fun u7=>u7=if (aQ (e.kids.getD k default) (bT (e.kids.take k) (0,0,true) (c,ba)).2).1.2.2=true then (bT (e.kids.take k) (0,0,true) (c,ba)).1.2.1 else 0) aU (fun _ lE=>?_) (fun u7 hg=>?_)
        ·refine .sr fun _ oG=>?_
         refine .v (.fieldAddr lX rfl) (.v (.aa vk rfl ax rfl) (.v (.not rfl) (.nt oG ?_)))
         refine .eW rfl (fun tb=>?_) (fun tb=>?_)
         ·refine .region ?_
          refine .v (.fieldAddr nA rfl) ?_
          refine .ah 3 (us:=[uv 0]) (cs':=[uv u6,uv 0,.bool (bT (e.kids.take k) (0,0,true) (c,ba)).1.2.2]) rfl zX rfl rfl rfl rfl aJ (aT rfl) rfl trivial ?_
          refine .nil ?_
          refine .ab (lE _ _ (0) (by rw [tb];rfl) (aU) (fun w hw=>hw))
         ·refine .skip ?_
          refine .ab (lE _ _ ((bT (e.kids.take k) (0,0,true) (c,ba)).1.2.1) (by rw [if_pos tb]) (aU) (fun w hw=>hw))
        ·have Wz:=hg
         refine .sr fun _ wg=>?_
         refine .v (.fieldAddr nA rfl) (.v (.aa iY rfl ax rfl) (.v (.fieldAddr nA rfl) (.v (.aa iY rfl ax rfl) (.v (.IZ rfl rfl) (.v (.fieldAddr nA rfl) ?_)))))
         refine .ah 3 (us:=[uv (u7 ||| (aQ (e.kids.getD k default) (bT (e.kids.take k) (0,0,true) (c,ba)).2).1.2.1)]) (cs':=[uv u6,uv (u7 ||| (aQ (e.kids.getD k default) (bT (e.kids.take k) (0,0,true) (c,ba)).2).1.2.1),.bool (bT (e.kids.take k) (0,0,true) (c,ba)).1.2.2]) rfl zX rfl rfl rfl rfl aJ (aT rfl) rfl trivial ?_
         refine .nt wg ?_
         refine .region ?_
         refine .v (.fieldAddr lX rfl) (.v (.aa vk rfl ax rfl) (.mv rfl ?_))
         refine .bQ (g:=109) rfl (fun gQ=>?_) (fun gQ=>?_)
         ·have xh:=gQ
          try simp only [bs] at xh
          refine .val _ (.fieldAddr lX rfl) ⟨_,rfl,gB gQ⟩ rfl ?_
          refine .val _ (.aa vk rfl ax rfl) ⟨_,rfl,gB gQ⟩ rfl ?_
          refine .v (.bw rfl (gQ) rfl) (.v (.fieldAddr lX rfl) ?_)
          refine .ah 3 (us:=[.bool (aQ (e.kids.getD k default) (bT (e.kids.take k) (0,0,true) (c,ba)).2).1.2.2]) (cs':=[uv u6,uv (u7 ||| (aQ (e.kids.getD k default) (bT (e.kids.take k) (0,0,true) (c,ba)).2).1.2.1),.bool (aQ (e.kids.getD k default) (bT (e.kids.take k) (0,0,true) (c,ba)).2).1.2.2]) rfl IW rfl rfl rfl rfl aJ (aT rfl) rfl trivial ?_
          refine .nil (.ag ?_)
          refine .ab (iS _ ?_)
          refine .region ?_
          refine .v (.add rfl rfl (by omega)) ?_
          refine .mv rfl (.nil ?_)
          first | refine .ab (gq _ _ (k+1) (by omega) (by omega) (aU) (fun w hw=>by
           have e:oo (bT (e.kids.take k) (0,0,true) (c,ba)).1 (aQ (e.kids.getD k default) (bT (e.kids.take k) (0,0,true) (c,ba)).2).1=(u6,u7 ||| (aQ (e.kids.getD k default) (bT (e.kids.take k) (0,0,true) (c,ba)).2).1.2.1,(aQ (e.kids.getD k default) (bT (e.kids.take k) (0,0,true) (c,ba)).2).1.2.2):=by unfold oo;rw [← WA,← Wz,gQ];rfl
           rw [pM ik,e]
           exact hw.pk [0,1,2,3])) | refine .ab (gq _ _ (k+1) (by omega) (by omega) (aU) (fun w hw=>by
           have e:oo (bT (e.kids.take k) (0,0,true) (c,ba)).1 (aQ (e.kids.getD k default) (bT (e.kids.take k) (0,0,true) (c,ba)).2).1=(u6,u7 ||| (aQ (e.kids.getD k default) (bT (e.kids.take k) (0,0,true) (c,ba)).2).1.2.1,false):=by unfold oo;rw [← WA,← Wz,gQ];rfl
           rw [pM ik,e]
           exact hw.pk [0,1,2,3]))
         ·have xh:=gQ
          try simp only [bs] at xh
          refine .pass rfl rfl (gQ) rfl ?_
          refine .pass rfl rfl (gQ) rfl ?_
          refine .v (.cH rfl (gQ) rfl) (.v (.fieldAddr lX rfl) ?_)
          refine .ah 3 (us:=[.bool false]) (cs':=[uv u6,uv (u7 ||| (aQ (e.kids.getD k default) (bT (e.kids.take k) (0,0,true) (c,ba)).2).1.2.1),.bool false]) rfl IW rfl rfl rfl rfl aJ (aT rfl) rfl trivial ?_
          refine .nil (.ag ?_)
          refine .ab (iS _ ?_)
          refine .region ?_
          refine .v (.add rfl rfl (by omega)) ?_
          refine .mv rfl (.nil ?_)
          first | refine .ab (gq _ _ (k+1) (by omega) (by omega) (aU) (fun w hw=>by
           have e:oo (bT (e.kids.take k) (0,0,true) (c,ba)).1 (aQ (e.kids.getD k default) (bT (e.kids.take k) (0,0,true) (c,ba)).2).1=(u6,u7 ||| (aQ (e.kids.getD k default) (bT (e.kids.take k) (0,0,true) (c,ba)).2).1.2.1,(aQ (e.kids.getD k default) (bT (e.kids.take k) (0,0,true) (c,ba)).2).1.2.2):=by unfold oo;rw [← WA,← Wz,gQ];rfl
           rw [pM ik,e]
           exact hw.pk [0,1,2,3])) | refine .ab (gq _ _ (k+1) (by omega) (by omega) (aU) (fun w hw=>by
           have e:oo (bT (e.kids.take k) (0,0,true) (c,ba)).1 (aQ (e.kids.getD k default) (bT (e.kids.take k) (0,0,true) (c,ba)).2).1=(u6,u7 ||| (aQ (e.kids.getD k default) (bT (e.kids.take k) (0,0,true) (c,ba)).2).1.2.1,false):=by unfold oo;rw [← WA,← Wz,gQ];rfl
           rw [pM ik,e]
           exact hw.pk [0,1,2,3]))
      ·have ik:k=e.kids.length:=by omega
       refine .exit (.ai (.ai (.ar ?_)))
       refine .ab (eI _ ?_)
       refine .sr fun _ Ab=>?_
       refine .v (.ak Af rfl ax rfl rfl) ?_
       refine .ah 2 (us:=[uv (bT (e.kids.take k) (0,0,true) (c,ba)).1.1,uv (bT (e.kids.take k) (0,0,true) (c,ba)).1.2.1,.bool (bT (e.kids.take k) (0,0,true) (c,ba)).1.2.2]) (cs':=[uv (bT (e.kids.take k) (0,0,true) (c,ba)).1.1,uv (bT (e.kids.take k) (0,0,true) (c,ba)).1.2.1,.bool (bT (e.kids.take k) (0,0,true) (c,ba)).1.2.2]) rfl tt rfl rfl rfl rfl aJ (aT rfl) rfl trivial ?_
       refine .nt Ab (.ret (.al (.ae ?_)))
       refine .cO [.cell 4 94] rfl (.cons (.cell Af rfl ax rfl rfl) (.nil)) (fun w hw=>⟨_,_,_,?_,rfl,.of (hw.pk [0])⟩)
       rw [ik,List.take_length] at *
       rw [iA e (c,ba),if_neg (by simpa using bx),if_neg (by simpa using cB),if_neg (by simpa using cZ),if_pos (by simpa using gn)]
       exact ⟨rfl,rfl,rfl⟩
    ·refine .sr fun _ Eg=>?_
     refine .v (.eql rfl rfl) (.as rfl (.nt Eg ?_))
     refine .aA rfl (fun FB=>?_) (fun FB=>?_)
     ·have h1k:e.kids.length=1:=AG Hl (.inl (by simpa using FB))
      have sk:=(hk 0 (by omega)).sl
      have O8:¬ e.op=3:=by omega
      have hle:bK e=bK (e.kids.getD 0 default):=by rw [pH,if_neg O8];exact On h1k
      rw [hle] at hz
      have Ht:=qW (e.kids.getD 0 default) (c,ba) (by dsimp only;omega)
      refine .sr fun _ Ef=>?_
      refine .mv rfl (.v (.fieldAddr bM rfl) (.v (.aa du rfl ax rfl) ?_))
      refine .v (.qi (k:=0) aR rfl rfl a8 (by decide) (by omega)) ?_
      refine .v (.da aM rfl a8 (by assumption) rfl (by omega)) ?_
      refine .aY 0 rfl Nd rfl (fun w Fs hw hh bI bc=>ih 0 (by omega) w (Fs 0) pb v N c ba hN vY sv (hT.at hw hF) (fun hb=>by rcases bc 0 0 hb with h | h;exact absurd hT.lt (Nat.not_lt.2 h);exact hF h) (hh.at_ 0 _ rfl) _ ((hk 0 (by omega)).yi bI bc 0) hz (nr Hl (by omega))) trivial rfl ?_
      rintro r A o ⟨rfl,rfl,rfl⟩
      refine .alloc Eh rfl rfl trivial rfl (fun RB=>?_)
      refine .ah 3 (us:=[uv (aQ (e.kids.getD 0 default) (c,ba)).1.1,uv (aQ (e.kids.getD 0 default) (c,ba)).1.2.1,.bool (aQ (e.kids.getD 0 default) (c,ba)).1.2.2]) (cs':=[uv (aQ (e.kids.getD 0 default) (c,ba)).1.1,uv (aQ (e.kids.getD 0 default) (c,ba)).1.2.1,.bool (aQ (e.kids.getD 0 default) (c,ba)).1.2.2]) rfl tt rfl rfl rfl rfl aJ (aT rfl) rfl trivial ?_
      refine .nt Ef ?_
      refine .sr fun _ Jz=>?_
      refine .mv rfl (.v (.fieldAddr nA rfl) (.v (.aa iY rfl ax rfl) (.v (.fieldAddr oV rfl) (.v (.aa iY rfl ax rfl) ?_))))
      refine .aY 0 rfl P8 rfl (fun w Fs hw hh bI bc=>KN w (Fs 0) pb v N (aQ (e.kids.getD 0 default) (c,ba)).2.1 (aQ (e.kids.getD 0 default) (c,ba)).2.2 (Ht.len.trans hN) vY sv (hT.at hw hF) (fun hb=>by rcases bc 0 0 hb with h | h;exact absurd hT.lt (Nat.not_lt.2 h);exact hF h) (hh.at_ 0 _ rfl) (aQ (e.kids.getD 0 default) (c,ba)).1.2.1 (aQ (e.kids.getD 0 default) (c,ba)).1.1 (fun i hi=>by have h1:=Ht.la i hi;have h3:=Ht.hi;dsimp only at h3;omega)) trivial rfl ?_
      rintro r A o ⟨rfl,rfl⟩
      refine .nt Jz ?_
      refine .sr fun _ Jy=>?_
      refine .v (.fieldAddr lX rfl) ?_
      refine .ah 3 (us:=[.bool true]) (cs':=[uv (aQ (e.kids.getD 0 default) (c,ba)).1.1,uv (aQ (e.kids.getD 0 default) (c,ba)).1.2.1,.bool true]) rfl IW rfl rfl rfl rfl aJ (aT rfl) rfl trivial ?_
      refine .nt Jy ?_
      refine .sr fun _ Jx=>?_
      refine .v (.ak Af rfl ax rfl rfl) ?_
      refine .ah 2 (us:=[uv (aQ (e.kids.getD 0 default) (c,ba)).1.1,uv (aQ (e.kids.getD 0 default) (c,ba)).1.2.1,.bool true]) (cs':=[uv (aQ (e.kids.getD 0 default) (c,ba)).1.1,uv (aQ (e.kids.getD 0 default) (c,ba)).1.2.1,.bool true]) rfl tt rfl rfl rfl rfl aJ (aT rfl) rfl trivial ?_
      refine .nt Jx (.ret (.al (.ae ?_)))
      refine .cO [.cell 4 94] rfl (.cons (.cell Af rfl ax rfl rfl) (.nil)) (fun w hw=>⟨_,_,_,?_,rfl,.of (hw.pk [0])⟩)
      rw [iA e (c,ba),if_neg (by simpa using bx),if_neg (by simpa using cB),if_neg (by simpa using cZ),if_neg (by simpa using gn),if_pos (by simpa using FB),KQ h1k]
      exact ⟨rfl,rfl,rfl⟩
     ·refine .skip (.ag ?_)
      refine .ab (bg _ ?_)
      refine .sr fun _ Jw=>?_
      refine .v (.build (parts:=[]) (cs:=#[uv 0,uv 0,.bool false]) rfl (by kernel_rfl)) ?_
      refine .ah 2 (us:=[uv 0,uv 0,.bool false]) (cs':=[uv 0,uv 0,.bool false]) rfl tt rfl rfl rfl rfl aJ (aT rfl) rfl trivial ?_
      refine .nt Jw (.ret ?_)
      refine .cO [.cell 4 94] rfl (.cons (.cell Af rfl ax rfl rfl) (.nil)) (fun w hw=>⟨_,_,_,?_,rfl,.of (hw.pk [0])⟩)
      rw [iA e (c,ba),if_neg (by simpa using bx),if_neg (by simpa using cB),if_neg (by simpa using cZ),if_neg (by simpa using gn),if_neg (by simpa using FB)]
      exact ⟨rfl,rfl,rfl⟩
end Go.Proofs.YtbibnpdnmmgacaaGreatDoor
