import Derived.Test.YtbibnpdnmmgacaaGreatDoorKZp
import Derived.Test.YtbibnpdnmmgacaaGreatDoorKZl
import Derived.Test.YtbibnpdnmmgacaaGreatDoorKZg
import Derived.Test.YtbibnpdnmmgacaaGreatDoorKZm
import Derived.Test.YtbibnpdnmmgacaaGreatDoorKZh
import Derived.Test.YtbibnpdnmmgacaaGreatDoorKZf
import Derived.Test.YtbibnpdnmmgacaaGreatDoorKZk
set_option linter.unusedVariables false
set_option linter.unusedSimpArgs false
set_option maxRecDepth 100000
namespace Go.Proofs.YtbibnpdnmmgacaaGreatDoor
open Go.Sx Go.RowKit
end Go.Proofs.YtbibnpdnmmgacaaGreatDoor
namespace Go.Proofs.YtbibnpdnmmgacaaGreatDoor
open Go.Sx Go.RowKit
end Go.Proofs.YtbibnpdnmmgacaaGreatDoor
namespace Go.Proofs.YtbibnpdnmmgacaaGreatDoor
open Go.Sx Go.RowKit
end Go.Proofs.YtbibnpdnmmgacaaGreatDoor
namespace Go.Proofs.YtbibnpdnmmgacaaGreatDoor
open Go.Sx Go.RowKit
end Go.Proofs.YtbibnpdnmmgacaaGreatDoor
namespace Go.Sx
def ng (e:Ex):Bool:=decide (1≤e.op∧e.op≤8)
def kd (e:Ex):Bool:=if e.op=1∨e.op=2∨e.op=3 then decide (e.kids.length=0) else if e.op=7∨e.op=8 then decide (e.kids.length=1) else ng e && decide (2≤e.kids.length)
def jX (n:Int) (e:Ex):Bool:=if e.op=3 then kd e && (decide (0≤e.lt) && decide (e.lt<n)) else kd e && decide (e.lt=0)
theorem J9 (n:Int) (e:Ex):dg n e=(jX n e && e.kids.all (dg n)):=by
 obtain ⟨op,lt,ks⟩:=e
 rw [nu]
 have hz:ks.length=0→ks.all (dg n)=true:=fun h=>by rw [List.eq_nil_of_length_eq_zero h];rfl
 unfold jX kd ng
 simp only [Ex.op,Ex.lt,Ex.kids]
 generalize ks.all (dg n)=b at *
 by_cases h3:op=3
 ·subst h3
  by_cases hm:ks.length=0
  ·simp [hm,hz hm];rfl
  ·simp [hm]
 ·simp only [h3,if_false,or_false]
  by_cases hl:lt=0
  ·simp only [hl,ne_eq,not_true,if_false,decide_true,Bool.and_true]
   by_cases Tt:op=1∨op=2
   ·simp only [Tt,if_true]
    by_cases hm:ks.length=0
    ·simp [hm,hz hm]
    ·simp [hm]
   ·simp only [Tt,if_false]
    by_cases WX:op=7∨op=8
    ·have:¬ (op=4∨op=5∨op=6):=by omega
     simp only [WX,this,if_true,if_false];rfl
    ·simp only [WX,if_false]
     by_cases h4:op=4∨op=5∨op=6
     ·have:1≤op∧op≤8:=by omega
      simp [h4,this];rfl
     ·have:¬ (1≤op∧op≤8):=by omega
      simp [h4,this]
  ·simp [hl]
theorem x5 {p:Ex→Bool} {ks:List Ex} {k:Nat} (h:k<ks.length):(ks.take (k+1)).all p=((ks.take k).all p && p (ks.getD k default)):=by
 rw [aO default ks k h,List.all_append];simp
theorem od {p:Ex→Bool} {ks:List Ex} {k:Nat} (h:(ks.take k).all p=false):ks.all p=false:=by
 rw [← List.take_append_drop k ks,List.all_append,h];rfl
theorem uY (ks:List Ex) (k:Nat):dL (ks.take k)≤dL ks:=nC (List.take_sublist k ks)
theorem yD {ks:List Ex} {k:Nat} (h:k<ks.length):dL (ks.take (k+1))=dL (ks.take k)+dt (ks.getD k default):=by
 rw [aO default ks k h,AM,aD,bU];rfl
end Go.Sx
namespace Go.Proofs.YtbibnpdnmmgacaaGreatDoor
open Go.Sx Go.RowKit
theorem Lc (w:World) (n:Int):aK Tryz.prog 35 [.int .i64 n] w (fun r o=>r = .bool (decide (1≤n∧n≤6))∧o=[]):=by
 refine aC Tryz.func35 rfl (aT rfl) ?_
 refine .sr fun _ bl=>?_
 refine .as rfl (.nt bl ?_)
 refine .sr fun _ bg=>?_
 refine .mv rfl (.v (.geq rfl rfl) (.mv rfl ?_))
 refine .bQ (g:=5) rfl (fun bt=>?_) (fun bt=>?_)
 ·have dC:=bt
  try simp only [bs] at dC
  refine .val _ (.move rfl) ⟨_,rfl,gB bt⟩ rfl ?_
  refine .val _ (.leq rfl rfl) ⟨_,rfl,gB bt⟩ rfl ?_
  refine .v (.bw rfl (bt) rfl) (.as rfl (.nt bg (.ret ?_)))
  refine .aG rfl rfl (fun w hw=>⟨_,_,?_,rfl,.of (hw.pk [])⟩)
  refine ⟨congrArg Value.bool ?_,rfl⟩
  (simp_all;done)
 ·have dC:=bt
  try simp only [bs] at dC
  refine .pass rfl rfl (bt) rfl ?_
  refine .pass rfl rfl (bt) rfl ?_
  refine .v (.cH rfl (bt) rfl) (.as rfl (.nt bg (.ret ?_)))
  refine .aG rfl rfl (fun w hw=>⟨_,_,?_,rfl,.of (hw.pk [])⟩)
  refine ⟨congrArg Value.bool ?_,rfl⟩
  (simp_all <;> omega)
def RJ (e:Ex):Prop:=∀ (w:World) (s:Value) (h:dy (bD (fun _=>False) w) s e.kids),aK Tryz.prog 90 [.agg #[.int .i64 e.op,.int .i64 e.lt,s],.int .i64 400] w (fun r o=>(∃ D:Int,r = .tuple #[.int .i64 ((min (dt e) 401:Nat):Int),.int .i64 D])∧o=[])
set_option maxHeartbeats 1000000 in
theorem EY (e:Ex) (ih:∀ i,i<e.kids.length→RJ (e.kids.getD i default)) (w:World) (s:Value) (h:dy (bD (fun _=>False) w) s e.kids):aK Tryz.prog 90 [.agg #[.int .i64 e.op,.int .i64 e.lt,s],.int .i64 400] w (fun r o=>(∃ D:Int,r = .tuple #[.int .i64 ((min (dt e) 401:Nat):Int),.int .i64 D])∧o=[]):=by
 obtain ⟨ss,hl,hx,hk⟩:=h.inv
 have hr:=hx.rd
 have hm:=hr.le
 refine aC Tryz.func90 rfl (aT rfl) ?_
 refine .sr fun _ bl=>?_
 refine .cS (E:=24) (cs:=[.int .i64 e.op,.int .i64 e.lt,s]) rfl rfl rfl trivial rfl (fun eu=>?_)
 refine .as rfl (.as rfl (.nt bl ?_))
 refine .sr fun _ bg=>?_
 refine .as rfl (.as rfl (.nt bg ?_))
 refine .seq fun _ bW=>?_
 refine .sr fun _ cr=>?_
 refine .as rfl (.nt cr (.block ?_))
 refine .bE (X:=Nat × Int) [(1,_),(2,_)] (fun x=>[(6,.int .i64 ((min (1+dL (e.kids.take x.1)) 401:Nat):Int)),(7,.int .i64 x.2),(8,.int .i64 (x.1:Int))]) (fun x=>[box eu 24 3 [.int .i64 e.op,.int .i64 e.lt,s]]) (fun x=>x.1≤e.kids.length) (fun x=>e.kids.length - x.1) ((0,0)) aU ?_ ?_ ?_ ?_
 ·exact Nat.zero_le _
 ·exact .cons (s9 rfl (by simp [bU])) (aU)
 ·exact fun w hw=>hw
 ·intro x aV _ cJ
  refine .seq fun _ cU=>?_
  refine .sr fun _ c7=>?_
  refine .mv rfl (.v (.fieldAddr bM rfl) (.v (.aa du rfl ax rfl) (.v (.aZ aR rfl a8) (.v (.lss rfl rfl) (.mv rfl ?_)))))
  refine .bQ (g:=16) rfl (fun km=>?_) (fun km=>?_)
  ·have Be:=km
   try simp only [bs] at Be
   refine .val _ (.move rfl) ⟨_,rfl,gB km⟩ rfl ?_
   refine .val _ (.move rfl) ⟨_,rfl,gB km⟩ rfl ?_
   refine .val _ (.leq rfl rfl) ⟨_,rfl,gB km⟩ rfl ?_
   refine .v (.bw rfl (km) rfl) (.nt c7 ?_)
   refine .aA rfl (fun bx=>?_) (fun bx=>?_)
   ·have ik:x.1<e.kids.length:=by have:=km;simp at this;omega
    have aa6:min (1+dL (e.kids.take x.1)) 401≤400:=by have:=bx;omega
    have sk:=(hk x.1 ik).sl
    refine .skip ?_
    refine .ab (cU _ ?_)
    refine .seq fun _ dm=>?_
    refine .block ?_
    refine .sr fun _ dD=>?_
    refine .v (.fieldAddr bM rfl) (.v (.aa du rfl ax rfl) (.mv rfl (.v (.iN aR rfl rfl) ?_)))
    refine .v (.da aM rfl a8 (by assumption) rfl (by omega)) ?_
    refine .mv rfl ?_
    refine .call Ru rfl (fun w hw=>ih x.1 ik w _ ((hk x.1 ik).at hw)) trivial rfl ?_
    rintro r o ⟨⟨D,rfl⟩,rfl⟩
    refine .mv rfl (.v (.extract rfl rfl) (.v (.extract rfl rfl) (.as rfl (.as rfl (.nt dD ?_)))))
    refine .region ?_
    refine .mv rfl (.mv rfl ?_)
    refine .v (.add rfl rfl (by omega)) ?_
    refine .mv rfl ?_
    refine .v (.add rfl rfl (by omega)) ?_
    refine .v (.min rfl rfl) (.mv rfl (.mv rfl (.v (.max rfl rfl) (.as rfl (.as rfl (.nil (.ag ?_)))))))
    refine .ab (dm _ ?_)
    refine .region ?_
    refine .mv rfl ?_
    refine .v (.add rfl rfl (by omega)) ?_
    refine .as rfl (.nil ?_)
    refine .ab (cJ _ _ ((x.1+1,max x.2 D)) (by dsimp only;omega) (by dsimp only;omega) (.cons (s9 rfl (by dsimp only;rw [yD (by omega)];omega)) (aU)) (fun w hw=>hw.pk [0]))
   ·refine .exit (.ai (.ai (.ar ?_)))
    refine .ab (bW _ ?_)
    refine .sr fun _ bJ=>?_
    refine .mv rfl (.mv rfl (.v (.UT rfl rfl) (.as rfl (.as rfl (.nt bJ (.ret ?_))))))
    refine .zZ rfl rfl rfl (fun w hw=>⟨_,_,?_,rfl,.of (hw.pk [])⟩)
    refine ⟨⟨IntKind.i64.wrap (x.2+1),?_⟩,rfl⟩
    have hn:min (1+dL (e.kids.take x.1)) 401=min (dt e) 401:=by
     rw [jc]
     have h1:=uY e.kids x.1
     by_cases hx:x.1=e.kids.length
     ·rw [hx,List.take_length]
     ·have h2:¬ (min (1+dL (e.kids.take x.1)) 401≤400):=by simp_all;omega
      omega
    rw [hn]
  ·have Be:=km
   try simp only [bs] at Be
   refine .pass rfl rfl (km) rfl ?_
   refine .pass rfl rfl (km) rfl ?_
   refine .pass rfl rfl (km) rfl ?_
   refine .v (.cH rfl (km) rfl) (.nt c7 ?_)
   refine .dH rfl (rfl) ?_
   refine .exit (.ai (.ai (.ar ?_)))
   refine .ab (bW _ ?_)
   refine .sr fun _ bP=>?_
   refine .mv rfl (.mv rfl (.v (.UT rfl rfl) (.as rfl (.as rfl (.nt bP (.ret ?_))))))
   refine .zZ rfl rfl rfl (fun w hw=>⟨_,_,?_,rfl,.of (hw.pk [])⟩)
   refine ⟨⟨IntKind.i64.wrap (x.2+1),?_⟩,rfl⟩
   have hn:min (1+dL (e.kids.take x.1)) 401=min (dt e) 401:=by
    rw [jc]
    have h1:=uY e.kids x.1
    by_cases hx:x.1=e.kids.length
    ·rw [hx,List.take_length]
    ·have h2:¬ (min (1+dL (e.kids.take x.1)) 401≤400):=by simp_all;omega
     omega
   rw [hn]
theorem Pu (e:Ex):RJ e:=Ex.ind (P:=RJ) (fun e ih w s h=>EY e ih w s h) e
def RH (n:Int) (e:Ex):Prop:=∀ (w:World) (s:Value) (h:dy (bD (fun _=>False) w) s e.kids),aK Tryz.prog 89 [.agg #[.int .i64 e.op,.int .i64 e.lt,s],.int .i64 n] w (fun r o=>r = .bool (dg n e)∧o=[])
set_option maxHeartbeats 2000000 in
theorem EV (n:Int) (e:Ex) (ih:∀ i,i<e.kids.length→RH n (e.kids.getD i default)) (w:World) (s:Value) (h:dy (bD (fun _=>False) w) s e.kids):aK Tryz.prog 89 [.agg #[.int .i64 e.op,.int .i64 e.lt,s],.int .i64 n] w (fun r o=>r = .bool (dg n e)∧o=[]):=by
 obtain ⟨ss,hl,hx,hk⟩:=h.inv
 have hr:=hx.rd
 have hm:=hr.le
 refine aC Tryz.func89 rfl (aT rfl) ?_
 refine .sr fun _ bl=>?_
 refine .cS (E:=24) (cs:=[.int .i64 e.op,.int .i64 e.lt,s]) rfl rfl rfl trivial rfl (fun eu=>?_)
 refine .as rfl (.nt bl ?_)
 refine .sr fun _ bg=>?_
 refine .v (.fieldAddr bM rfl) (.v (.aa du rfl ax rfl) (.v (.aZ aR rfl a8) (.as rfl (.nt bg ?_))))
 refine .D9 (X:=Bool) [(1,_),(2,_),(5,_)] (fun u=>[(6,.bool u)]) (fun u=>[box eu 24 3 [.int .i64 e.op,.int .i64 e.lt,s]]) (fun u=>u=ng e) aU (fun _ bW=>?_) (fun u hg=>?_)
 ·refine .region ?_
  refine .v (.fieldAddr cP rfl) (.v (.aa cQ rfl ax rfl) (.v (.geq rfl rfl) (.mv rfl ?_)))
  refine .bQ (g:=14) rfl (fun kX=>?_) (fun kX=>?_)
  ·have Bi:=kX
   try simp only [bs] at Bi
   refine .val _ (.fieldAddr cP rfl) ⟨_,rfl,gB kX⟩ rfl ?_
   refine .val _ (.aa cQ rfl ax rfl) ⟨_,rfl,gB kX⟩ rfl ?_
   refine .val _ (.leq rfl rfl) ⟨_,rfl,gB kX⟩ rfl ?_
   refine .v (.bw rfl (kX) rfl) (.as rfl (.nil ?_))
   refine .ab (bW _ _ (ng e) rfl (.cons (Ft rfl (by (simp_all [ng,kd,jX];done))) (aU)) (fun w hw=>hw))
  ·have Bi:=kX
   try simp only [bs] at Bi
   refine .pass rfl rfl (kX) rfl ?_
   refine .pass rfl rfl (kX) rfl ?_
   refine .pass rfl rfl (kX) rfl ?_
   refine .v (.cH rfl (kX) rfl) (.as rfl (.nil ?_))
   refine .ab (bW _ _ (ng e) rfl (.cons (Ft rfl (by (simp_all [ng,kd,jX] <;> omega))) (aU)) (fun w hw=>hw))
 ·subst hg
  refine .D9 (X:=Bool) [(1,_),(2,_),(5,_)] (fun u=>[(6,.bool u)]) (fun u=>[box eu 24 3 [.int .i64 e.op,.int .i64 e.lt,s]]) (fun u=>u=kd e) aU (fun _ cr=>?_) (fun u hg=>?_)
  ·refine .sr fun _ cJ=>?_
   refine .v (.fieldAddr cP rfl) (.v (.aa cQ rfl ax rfl) (.nt cJ (.block ?_)))
   refine .seq fun _ cU=>?_
   refine .sr fun _ c7=>?_
   refine .v (.eql rfl rfl) (.as rfl (.nt c7 ?_))
   refine .aA rfl (fun bx=>?_) (fun bx=>?_)
   ·refine .skip ?_
    refine .ab (cU _ ?_)
    refine .cD rfl (decide_eq_true bx) ?_
    refine .region ?_
    refine .mv rfl (.v (.eql rfl rfl) (.as rfl (.nil (.ag ?_))))
    refine .ab (cr _ _ (kd e) rfl (.cons (Ft rfl (by (simp_all [ng,kd,jX];done))) (aU)) (fun w hw=>hw))
   ·refine .sr fun _ dm=>?_
    refine .v (.eql rfl rfl) (.as rfl (.nt dm ?_))
    refine .aA rfl (fun cB=>?_) (fun cB=>?_)
    ·refine .skip ?_
     refine .ab (cU _ ?_)
     refine .cD rfl (decide_eq_true cB) ?_
     refine .region ?_
     refine .mv rfl (.v (.eql rfl rfl) (.as rfl (.nil (.ag ?_))))
     refine .ab (cr _ _ (kd e) rfl (.cons (Ft rfl (by (simp_all [ng,kd,jX];done))) (aU)) (fun w hw=>hw))
    ·refine .region ?_
     refine .v (.eql rfl rfl) (.as rfl (.nt cU ?_))
     refine .aA rfl (fun cZ=>?_) (fun cZ=>?_)
     ·refine .region ?_
      refine .mv rfl (.v (.eql rfl rfl) (.as rfl (.nil (.ag ?_))))
      refine .ab (cr _ _ (kd e) rfl (.cons (Ft rfl (by (simp_all [ng,kd,jX];done))) (aU)) (fun w hw=>hw))
     ·refine .seq fun _ dD=>?_
      refine .sr fun _ bJ=>?_
      refine .v (.eql rfl rfl) (.as rfl (.nt bJ ?_))
      refine .aA rfl (fun iz=>?_) (fun iz=>?_)
      ·refine .skip ?_
       refine .ab (dD _ ?_)
       refine .cD rfl (decide_eq_true iz) ?_
       refine .region ?_
       refine .mv rfl (.v (.eql rfl rfl) (.as rfl (.nil (.ag ?_))))
       refine .ab (cr _ _ (kd e) rfl (.cons (Ft rfl (by (simp_all [ng,kd,jX] <;> omega))) (aU)) (fun w hw=>hw))
      ·refine .region ?_
       refine .v (.eql rfl rfl) (.as rfl (.nt dD ?_))
       refine .aA rfl (fun gn=>?_) (fun gn=>?_)
       ·refine .region ?_
        refine .mv rfl (.v (.eql rfl rfl) (.as rfl (.nil (.ag ?_))))
        refine .ab (cr _ _ (kd e) rfl (.cons (Ft rfl (by (simp_all [ng,kd,jX] <;> omega))) (aU)) (fun w hw=>hw))
       ·refine .region ?_
        refine .mv rfl (.mv rfl ?_)
        refine .bQ (g:=22) rfl (fun cM=>?_) (fun cM=>?_)
        ·have nH:=cM
         try simp only [bs] at nH
         refine .val _ (.move rfl) ⟨_,rfl,gB cM⟩ rfl ?_
         refine .val _ (.geq rfl rfl) ⟨_,rfl,gB cM⟩ rfl ?_
         refine .v (.bw rfl (cM) rfl) (.as rfl (.nil (.ag ?_)))
         refine .ab (cr _ _ (kd e) rfl (.cons (Ft rfl (by (simp_all [ng,kd,jX] <;> omega))) (aU)) (fun w hw=>hw))
        ·have nH:=cM
         try simp only [bs] at nH
         refine .pass rfl rfl (cM) rfl ?_
         refine .pass rfl rfl (cM) rfl ?_
         refine .v (.cH rfl (cM) rfl) (.as rfl (.nil (.ag ?_)))
         refine .ab (cr _ _ (kd e) rfl (.cons (Ft rfl (by (simp_all [ng,kd,jX] <;> omega))) (aU)) (fun w hw=>hw))
  ·subst hg
   refine .D9 (X:=Bool) [(1,_),(2,_),(5,_)] (fun u=>[(6,.bool u)]) (fun u=>[box eu 24 3 [.int .i64 e.op,.int .i64 e.lt,s]]) (fun u=>u=jX n e) aU (fun _ bP=>?_) (fun u hg=>?_)
   ·refine .sr fun _ ct=>?_
    refine .v (.fieldAddr cP rfl) (.v (.aa cQ rfl ax rfl) (.v (.eql rfl rfl) (.nt ct ?_)))
    refine .aA rfl (fun qp=>?_) (fun qp=>?_)
    ·refine .region ?_
     refine .mv rfl (.mv rfl ?_)
     refine .bQ (g:=41) rfl (fun jk=>?_) (fun jk=>?_)
     ·have xq:=jk
      try simp only [bs] at xq
      refine .val _ (.fieldAddr gr rfl) ⟨_,rfl,gB jk⟩ rfl ?_
      refine .val _ (.aa cQ rfl ax rfl) ⟨_,rfl,gB jk⟩ rfl ?_
      refine .val _ (.geq rfl rfl) ⟨_,rfl,gB jk⟩ rfl ?_
      refine .v (.bw rfl (jk) rfl) (.mv rfl ?_)
      refine .bQ (g:=46) rfl (fun gR=>?_) (fun gR=>?_)
      ·have xp:=gR
       try simp only [bs] at xp
       refine .val _ (.fieldAddr gr rfl) ⟨_,rfl,gB gR⟩ rfl ?_
       refine .val _ (.aa cQ rfl ax rfl) ⟨_,rfl,gB gR⟩ rfl ?_
       refine .val _ (.move rfl) ⟨_,rfl,gB gR⟩ rfl ?_
       refine .val _ (.lss rfl rfl) ⟨_,rfl,gB gR⟩ rfl ?_
       refine .v (.bw rfl (gR) rfl) (.as rfl (.nil ?_))
       refine .ab (bP _ _ (jX n e) rfl (.cons (Ft rfl (by (simp_all [ng,kd,jX];done))) (aU)) (fun w hw=>hw))
      ·have xp:=gR
       try simp only [bs] at xp
       refine .pass rfl rfl (gR) rfl ?_
       refine .pass rfl rfl (gR) rfl ?_
       refine .pass rfl rfl (gR) rfl ?_
       refine .pass rfl rfl (gR) rfl ?_
       refine .v (.cH rfl (gR) rfl) (.as rfl (.nil ?_))
       refine .ab (bP _ _ (jX n e) rfl (.cons (Ft rfl (by (simp_all [ng,kd,jX] <;> omega))) (aU)) (fun w hw=>hw))
     ·have xq:=jk
      try simp only [bs] at xq
      refine .pass rfl rfl (jk) rfl ?_
      refine .pass rfl rfl (jk) rfl ?_
      refine .pass rfl rfl (jk) rfl ?_
      refine .v (.cH rfl (jk) rfl) (.mv rfl ?_)
      refine .pass rfl rfl rfl rfl ?_
      refine .pass rfl rfl rfl rfl ?_
      refine .pass rfl rfl rfl rfl ?_
      refine .pass rfl rfl rfl rfl ?_
      refine .v (.cH rfl (rfl) rfl) (.as rfl (.nil ?_))
      refine .ab (bP _ _ (jX n e) rfl (.cons (Ft rfl (by (simp_all [ng,kd,jX];done))) (aU)) (fun w hw=>hw))
    ·refine .region ?_
     refine .mv rfl (.mv rfl ?_)
     refine .bQ (g:=53) rfl (fun ji=>?_) (fun ji=>?_)
     ·have xo:=ji
      try simp only [bs] at xo
      refine .val _ (.fieldAddr gr rfl) ⟨_,rfl,gB ji⟩ rfl ?_
      refine .val _ (.aa cQ rfl ax rfl) ⟨_,rfl,gB ji⟩ rfl ?_
      refine .val _ (.eql rfl rfl) ⟨_,rfl,gB ji⟩ rfl ?_
      refine .v (.bw rfl (ji) rfl) (.as rfl (.nil ?_))
      refine .ab (bP _ _ (jX n e) rfl (.cons (Ft rfl (by (simp_all [ng,kd,jX];done))) (aU)) (fun w hw=>hw))
     ·have xo:=ji
      try simp only [bs] at xo
      refine .pass rfl rfl (ji) rfl ?_
      refine .pass rfl rfl (ji) rfl ?_
      refine .pass rfl rfl (ji) rfl ?_
      refine .v (.cH rfl (ji) rfl) (.as rfl (.nil ?_))
      refine .ab (bP _ _ (jX n e) rfl (.cons (Ft rfl (by grind [ng,kd,jX])) (aU)) (fun w hw=>hw))
   ·subst hg
    refine .seq fun _ cK=>?_
    refine .sr fun _ cW=>?_
    refine .as rfl (.nt cW (.block ?_))
    refine .bE (X:=Nat × Bool) [(1,_),(2,_),(5,_)] (fun x=>[(6,.bool x.2),(7,.int .i64 (x.1:Int))]) (fun x=>[box eu 24 3 [.int .i64 e.op,.int .i64 e.lt,s]]) (fun x=>x.1≤e.kids.length∧x.2=(jX n e && (e.kids.take x.1).all (dg n))) (fun x=>e.kids.length - x.1) ((0,jX n e)) aU ?_ ?_ ?_ ?_
    ·exact ⟨Nat.zero_le _,by simp⟩
    ·exact aU
    ·exact fun w hw=>hw
    ·intro x aV _ c8
     refine .seq fun _ dw=>?_
     refine .sr fun _ dE=>?_
     refine .mv rfl (.mv rfl (.v (.lss rfl rfl) (.mv rfl ?_)))
     refine .bQ (g:=61) rfl (fun lK=>?_) (fun lK=>?_)
     ·have xk:=lK
      try simp only [bs] at xk
      refine .val _ (.move rfl) ⟨_,rfl,gB lK⟩ rfl ?_
      refine .v (.bw rfl (lK) rfl) (.nt dE ?_)
      refine .cond rfl (fun ka=>?_) (fun ka=>?_)
      ·try simp only [bs] at ka
       have ik:x.1<e.kids.length:=by have:=lK;simp at this;omega
       have hxt:x.2=true:=ka
       have sk:=(hk x.1 ik).sl
       refine .skip ?_
       refine .ab (dw _ ?_)
       refine .seq fun _ dR=>?_
       refine .block ?_
       refine .region ?_
       refine .v (.fieldAddr bM rfl) (.v (.aa du rfl ax rfl) (.mv rfl (.v (.iN aR rfl rfl) ?_)))
       refine .v (.da aM rfl a8 (by assumption) rfl (by omega)) ?_
       refine .mv rfl ?_
       refine .call UE rfl (fun w hw=>ih x.1 ik w _ ((hk x.1 ik).at hw)) trivial rfl ?_
       rintro r o ⟨rfl,rfl⟩
       refine .as rfl (.nil (.ag ?_))
       refine .ab (dR _ ?_)
       refine .region ?_
       refine .mv rfl ?_
       refine .v (.add rfl rfl (by omega)) ?_
       refine .as rfl (.nil ?_)
       refine .ab (c8 _ _ ((x.1+1,dg n (e.kids.getD x.1 default))) ⟨by dsimp only;omega,by dsimp only;rw [x5 ik,← Bool.and_assoc,← aV.2,hxt,Bool.true_and]⟩ (by dsimp only;omega) (aU) (fun w hw=>hw.pk [0]))
      ·try simp only [bs] at ka
       refine .exit (.ai (.ai (.ar ?_)))
       refine .ab (cK _ ?_)
       refine .sr fun _ dO=>?_
       refine .mv rfl (.as rfl (.nt dO (.ret ?_)))
       refine .aG rfl rfl (fun w hw=>⟨_,_,?_,rfl,.of (hw.pk [])⟩)
       refine ⟨congrArg Value.bool ?_,rfl⟩
       rw [J9,aV.2]
       by_cases hx:x.1=e.kids.length
       ·rw [hx,List.take_length]
       ·have h2:x.2=false:=by first | (simp_all;done) | (simp_all;omega)
        rw [h2] at aV
        rw [← aV.2]
        cases h3:jX n e with
        | false=>rfl
        | true=>
         have h4:(e.kids.take x.1).all (dg n)=false:=by rw [h3,Bool.true_and] at aV;exact aV.2.symm
         rw [od h4];rfl
     ·have xk:=lK
      try simp only [bs] at xk
      refine .pass rfl rfl (lK) rfl ?_
      refine .v (.cH rfl (lK) rfl) (.nt dE ?_)
      refine .dH rfl (rfl) ?_
      refine .exit (.ai (.ai (.ar ?_)))
      refine .ab (cK _ ?_)
      refine .sr fun _ eJ=>?_
      refine .mv rfl (.as rfl (.nt eJ (.ret ?_)))
      refine .aG rfl rfl (fun w hw=>⟨_,_,?_,rfl,.of (hw.pk [])⟩)
      refine ⟨congrArg Value.bool ?_,rfl⟩
      rw [J9,aV.2]
      by_cases hx:x.1=e.kids.length
      ·rw [hx,List.take_length]
      ·have h2:x.2=false:=by first | (simp_all;done) | (simp_all;omega)
       rw [h2] at aV
       rw [← aV.2]
       cases h3:jX n e with
       | false=>rfl
       | true=>
        have h4:(e.kids.take x.1).all (dg n)=false:=by rw [h3,Bool.true_and] at aV;exact aV.2.symm
        rw [od h4];rfl
theorem U5 (n:Int) (e:Ex):RH n e:=Ex.ind (P:=RH n) (fun e ih w s h=>EV n e ih w s h) e
theorem HY (w:World) (e:Ex) (s:Value) (h:dy (bD (fun _=>False) w) s e.kids):aK Tryz.prog 88 [.agg #[.int .i64 e.op,.int .i64 e.lt,s]] w (fun r o=>(∃ b,r = .bool b)∧o=[]):=by
 have sk:=h.sl
 refine aC Tryz.func88 rfl (aT rfl) ?_
 refine .sr fun _ bl=>?_
 refine .cS (E:=24) (cs:=[.int .i64 e.op,.int .i64 e.lt,s]) rfl rfl rfl trivial rfl (fun jV=>?_)
 refine .as rfl (.nt bl ?_)
 refine .sr fun _ bg=>?_
 refine .v (.ak aM rfl ax rfl rfl) ?_
 refine .call Ru rfl (fun w hw=>Pu e w s (h.at hw)) trivial rfl ?_
 rintro r o ⟨⟨D,rfl⟩,rfl⟩
 refine .mv rfl (.v (.extract rfl rfl) (.v (.extract rfl rfl) (.as rfl (.as rfl (.nt bg ?_)))))
 refine .sr fun _ bW=>?_
 refine .mv rfl (.v (.leq rfl rfl) (.mv rfl ?_))
 refine .bQ (g:=12) rfl (fun ig=>?_) (fun ig=>?_)
 ·have Bj:=ig
  try simp only [bs] at Bj
  refine .val _ (.move rfl) ⟨_,rfl,gB ig⟩ rfl ?_
  refine .val _ (.leq rfl rfl) ⟨_,rfl,gB ig⟩ rfl ?_
  refine .v (.bw rfl (ig) rfl) (.as rfl (.nt bW (.ret ?_)))
  refine .aG rfl rfl (fun w hw=>⟨_,_,?_,rfl,.of (hw.pk [])⟩)
  exact ⟨⟨_,rfl⟩,rfl⟩
 ·have Bj:=ig
  try simp only [bs] at Bj
  refine .pass rfl rfl (ig) rfl ?_
  refine .pass rfl rfl (ig) rfl ?_
  refine .v (.cH rfl (ig) rfl) (.as rfl (.nt bW (.ret ?_)))
  refine .aG rfl rfl (fun w hw=>⟨_,_,?_,rfl,.of (hw.pk [])⟩)
  exact ⟨⟨_,rfl⟩,rfl⟩
theorem R4 (w:World) (e:Ex) (s:Value) (n:Int) (h:dy (bD (fun _=>False) w) s e.kids):aK Tryz.prog 33 [.agg #[.int .i64 e.op,.int .i64 e.lt,s],.int .i64 n] w (fun r o=>(∃ er:Int,r = .int .i64 er∧(er=0→dg n e=true))∧o=[]):=by
 have sk:=h.sl
 refine aC Tryz.func33 rfl (aT rfl) ?_
 refine .sr fun _ bl=>?_
 refine .cS (E:=24) (cs:=[.int .i64 e.op,.int .i64 e.lt,s]) rfl rfl rfl trivial rfl (fun eu=>?_)
 refine .as rfl (.nt bl ?_)
 refine .seq fun _ bg=>?_
 refine .block ?_
 refine .sr fun _ bW=>?_
 refine .mv rfl ?_
 refine .call aav rfl (fun w hw=>Lc w n) trivial rfl ?_
 rintro r o ⟨rfl,rfl⟩
 refine .v (.not rfl) (.as rfl (.nt bW ?_))
 refine .eW rfl (fun bx=>?_) (fun bx=>?_)
 ·refine .sr fun _ cr=>?_
  refine .as rfl (.nt cr (.ret (.al (.ae ?_))))
  refine .aG rfl rfl (fun w hw=>⟨_,_,?_,rfl,.of (hw.pk [])⟩)
  exact ⟨⟨_,rfl,fun h=>absurd h (by decide)⟩,rfl⟩
 ·refine .sr fun _ cJ=>?_
  refine .v (.ak aM rfl ax rfl rfl) ?_
  refine .call aab rfl (fun w hw=>HY w e s (h.at hw)) trivial rfl ?_
  rintro r o ⟨⟨b,rfl⟩,rfl⟩
  refine .v (.not rfl) (.as rfl (.nt cJ ?_))
  refine .eW rfl (fun cB=>?_) (fun cB=>?_)
  ·refine .sr fun _ cU=>?_
   refine .as rfl (.nt cU (.ret (.al (.ae ?_))))
   refine .aG rfl rfl (fun w hw=>⟨_,_,?_,rfl,.of (hw.pk [])⟩)
   exact ⟨⟨_,rfl,fun h=>absurd h (by decide)⟩,rfl⟩
  ·refine .sr fun _ c7=>?_
   refine .v (.ak aM rfl ax rfl rfl) (.mv rfl ?_)
   refine .call UE rfl (fun w hw=>U5 n e w s (h.at hw)) trivial rfl ?_
   rintro r o ⟨rfl,rfl⟩
   refine .v (.not rfl) (.as rfl (.nt c7 ?_))
   refine .eW rfl (fun cZ=>?_) (fun cZ=>?_)
   ·refine .sr fun _ dm=>?_
    refine .as rfl (.nt dm (.ret (.al (.ae ?_))))
    refine .aG rfl rfl (fun w hw=>⟨_,_,?_,rfl,.of (hw.pk [])⟩)
    exact ⟨⟨_,rfl,fun h=>absurd h (by decide)⟩,rfl⟩
   ·refine .skip (.ag ?_)
    refine .ab (bg _ ?_)
    refine .sr fun _ dD=>?_
    refine .as rfl (.nt dD (.ret ?_))
    refine .aG rfl rfl (fun w hw=>⟨_,_,?_,rfl,.of (hw.pk [])⟩)
    exact ⟨⟨_,rfl,fun _=>by simp_all⟩,rfl⟩
theorem NN (w:World) (e:Ex) (s:Value) (h:dy (bD (fun _=>False) w) s e.kids):aK Tryz.prog 34 [.agg #[.int .i64 e.op,.int .i64 e.lt,s]] w (fun r o=>r = .int .i64 ((min (dt e) 401:Nat):Int)∧o=[]):=by
 have sk:=h.sl
 refine aC Tryz.func34 rfl (aT rfl) ?_
 refine .sr fun _ bl=>?_
 refine .cS (E:=24) (cs:=[.int .i64 e.op,.int .i64 e.lt,s]) rfl rfl rfl trivial rfl (fun jV=>?_)
 refine .as rfl (.nt bl ?_)
 refine .sr fun _ bg=>?_
 refine .v (.ak aM rfl ax rfl rfl) ?_
 refine .call Ru rfl (fun w hw=>Pu e w s (h.at hw)) trivial rfl ?_
 rintro r o ⟨⟨D,rfl⟩,rfl⟩
 refine .mv rfl (.v (.extract rfl rfl) (.v (.extract rfl rfl) (.as rfl (.as rfl (.nt bg ?_)))))
 refine .sr fun _ bW=>?_
 refine .mv rfl (.as rfl (.nt bW (.ret ?_)))
 refine .aG rfl rfl (fun w hw=>⟨_,_,?_,rfl,.of (hw.pk [])⟩)
 exact ⟨rfl,rfl⟩
theorem Ld (w:World) (e:Ex) (s:Value) (m:Nat) (hm:m≤20) (h:dy (bD (fun _=>False) w) s e.kids):aK Tryz.prog 7 [.agg #[.int .i64 e.op,.int .i64 e.lt,s],.int .i64 (m:Int)] w (fun r o=>(∃ b,r = .bool b∧(b=true→cg e 2=0∧dt e≤m))∧o=[]):=by
 have sk:=h.sl
 refine aC Tryz.func7 rfl (aT rfl) ?_
 refine .sr fun _ bl=>?_
 refine .cS (E:=24) (cs:=[.int .i64 e.op,.int .i64 e.lt,s]) rfl rfl rfl trivial rfl (fun eu=>?_)
 refine .as rfl (.nt bl ?_)
 refine .sr fun _ bg=>?_
 refine .v (.ak aM rfl ax rfl rfl) ?_
 refine .call aax rfl (fun w hw=>R4 w e s 2 (h.at hw)) trivial rfl ?_
 rintro r o ⟨⟨er,rfl,XQ⟩,rfl⟩
 refine .v (.eql rfl rfl) (.mv rfl ?_)
 refine .bQ (g:=8) rfl (fun a7=>?_) (fun a7=>?_)
 ·have dP:=a7
  try simp only [bs] at dP
  refine .val _ (.ak aM rfl ax rfl rfl) ⟨_,rfl,gB a7⟩ rfl ?_
  refine .call aaw rfl (fun w hw=>NN w e s (h.at hw)) ⟨_,rfl,gB a7⟩ rfl ?_
  rintro r o ⟨rfl,rfl⟩
  refine .val _ (.move rfl) ⟨_,rfl,gB a7⟩ rfl ?_
  refine .val _ (.leq rfl rfl) ⟨_,rfl,gB a7⟩ rfl ?_
  refine .v (.bw rfl (a7) rfl) (.as rfl (.nt bg (.ret ?_)))
  refine .aG rfl rfl (fun w hw=>⟨_,_,?_,rfl,.of (hw.pk [])⟩)
  refine ⟨⟨_,rfl,fun hb=>?_⟩,rfl⟩
  have hz:er=0∧dt e≤m:=by
   (simp_all <;> omega)
  exact ⟨oY (by decide) (by omega) (XQ hz.1),hz.2⟩
 ·have dP:=a7
  try simp only [bs] at dP
  refine .pass rfl rfl (a7) rfl ?_
  refine .pass rfl rfl (a7) rfl ?_
  refine .pass rfl rfl (a7) rfl ?_
  refine .pass rfl rfl (a7) rfl ?_
  refine .v (.cH rfl (a7) rfl) (.as rfl (.nt bg (.ret ?_)))
  refine .aG rfl rfl (fun w hw=>⟨_,_,?_,rfl,.of (hw.pk [])⟩)
  refine ⟨⟨_,rfl,fun hb=>?_⟩,rfl⟩
  have hz:er=0∧dt e≤m:=by
   (simp_all;done)
  exact ⟨oY (by decide) (by omega) (XQ hz.1),hz.2⟩
end Go.Proofs.YtbibnpdnmmgacaaGreatDoor
