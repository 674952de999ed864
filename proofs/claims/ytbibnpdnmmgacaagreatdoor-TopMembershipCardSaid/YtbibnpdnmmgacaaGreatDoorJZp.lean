import Derived.Test.YtbibnpdnmmgacaaGreatDoorJZo
import Derived.Test.YtbibnpdnmmgacaaGreatDoorJZe
import Derived.Test.YtbibnpdnmmgacaaGreatDoorJZg
import Derived.Test.YtbibnpdnmmgacaaGreatDoorJZf
import Derived.Test.YtbibnpdnmmgacaaGreatDoorJZj
import Derived.Test.YtbibnpdnmmgacaaGreatDoorJZm
import Derived.Test.YtbibnpdnmmgacaaGreatDoorJZn
set_option linter.unusedVariables false
set_option linter.unusedSimpArgs false
set_option maxRecDepth 100000
namespace Go.Sx
open Go.RowKit
section cat
variable {m1 m2 : Dfa}
end cat
section star
variable {m : Dfa}
theorem star_ne {L:List UInt8→Prop} {l:List UInt8} (h:StarL L l):l=[]∨∃ u w:List UInt8,u ≠ []∧L u∧StarL L w∧l=u++w:=by
 induction h with
 | nil=>exact .inl rfl
 | @cons u v h t ih=>
  by_cases hu:u=[]
  ·subst hu;exact ih
  ·exact .inr ⟨u,v,hu,h,t,rfl⟩
end star
end Go.Sx
namespace Go.Proofs.YtbibnpdnmmgacaaGreatDoor
open Go.Sx Go.RowKit
end Go.Proofs.YtbibnpdnmmgacaaGreatDoor
namespace Go.Sx
open Go.RowKit
end Go.Sx
namespace Go.Proofs.YtbibnpdnmmgacaaGreatDoor
open Go.Sx Go.RowKit
end Go.Proofs.YtbibnpdnmmgacaaGreatDoor
namespace Go.Sx
def ok0E (e:Ex):Bool:=decide (1≤e.op∧e.op≤8)
def ok1E (e:Ex):Bool:=if e.op=1∨e.op=2∨e.op=3 then decide (e.kids.length=0) else if e.op=7∨e.op=8 then decide (e.kids.length=1) else ok0E e && decide (2≤e.kids.length)
def ok2E (n:Int) (e:Ex):Bool:=if e.op=3 then ok1E e && (decide (0≤e.lt) && decide (e.lt<n)) else ok1E e && decide (e.lt=0)
theorem wf_ok2 (n:Int) (e:Ex):wfE n e=(ok2E n e && e.kids.all (wfE n)):=by
 obtain ⟨op,lt,ks⟩:=e
 rw [wfE_mk]
 have hz:ks.length=0→ks.all (wfE n)=true:=fun h=>by rw [List.eq_nil_of_length_eq_zero h];rfl
 unfold ok2E ok1E ok0E
 simp only [Ex.op,Ex.lt,Ex.kids]
 generalize ks.all (wfE n)=b at *
 by_cases h3:op=3
 ·subst h3
  by_cases hm:ks.length=0
  ·simp [hm,hz hm];rfl
  ·simp [hm]
 ·simp only [h3,if_false,or_false]
  by_cases hl:lt=0
  ·simp only [hl,ne_eq,not_true,if_false,decide_true,Bool.and_true]
   by_cases h12:op=1∨op=2
   ·simp only [h12,if_true]
    by_cases hm:ks.length=0
    ·simp [hm,hz hm]
    ·simp [hm]
   ·simp only [h12,if_false]
    by_cases h78:op=7∨op=8
    ·have:¬ (op=4∨op=5∨op=6):=by omega
     simp only [h78,this,if_true,if_false];rfl
    ·simp only [h78,if_false]
     by_cases h4:op=4∨op=5∨op=6
     ·have:1≤op∧op≤8:=by omega
      simp [h4,this];rfl
     ·have:¬ (1≤op∧op≤8):=by omega
      simp [h4,this]
  ·simp [hl]
theorem all_take_nextX {p:Ex→Bool} {ks:List Ex} {k:Nat} (h:k<ks.length):(ks.take (k+1)).all p=((ks.take k).all p && p (ks.getD k default)):=by
 rw [take_snocD default ks k h,List.all_append];simp
theorem all_take_falseX {p:Ex→Bool} {ks:List Ex} {k:Nat} (h:(ks.take k).all p=false):ks.all p=false:=by
 rw [← List.take_append_drop k ks,List.all_append,h];rfl
theorem szL_take_le (ks:List Ex) (k:Nat):szL (ks.take k)≤szL ks:=szL_sub (List.take_sublist k ks)
theorem szL_take_next {ks:List Ex} {k:Nat} (h:k<ks.length):szL (ks.take (k+1))=szL (ks.take k)+szE (ks.getD k default):=by
 rw [take_snocD default ks k h,szL_app,szL_cons,szL_nil];rfl
end Go.Sx
namespace Go.Proofs.YtbibnpdnmmgacaaGreatDoor
open Go.Sx Go.RowKit
theorem s_maylet (w:World) (n:Int):CallS Tryz.prog 35 [.int .i64 n] w (fun r o=>r = .bool (decide (1≤n∧n≤6))∧o=[]):=by
 refine spec_of Tryz.func35 rfl (leb rfl) ?_
 refine .sr fun _ hK1=>?_
 refine .as rfl (.nt hK1 ?_)
 refine .sr fun _ hK2=>?_
 refine .mv rfl (.v (.geq rfl rfl) (.mv rfl ?_))
 refine AK.splitB (g:=5) rfl (fun hg_1_2=>?_) (fun hg_1_2=>?_)
 ·have hg_1_2':=hg_1_2
  try simp only [bs] at hg_1_2'
  refine AK.val _ (Yl.move rfl) ⟨_,rfl,gB hg_1_2⟩ rfl ?_
  refine AK.val _ (Yl.leq rfl rfl) ⟨_,rfl,gB hg_1_2⟩ rfl ?_
  refine .v (.pickT rfl (hg_1_2) rfl) (.as rfl (.nt hK2 (.ret ?_)))
  refine AK.ret1 rfl rfl (fun w hw=>⟨_,_,?_,rfl,Ret.of (hw.pick [] (by decide) rfl rfl)⟩)
  refine ⟨congrArg Value.bool ?_,rfl⟩
  first | (simp_all;done) | (simp_all <;> omega)
 ·have hg_1_2':=hg_1_2
  try simp only [bs] at hg_1_2'
  refine AK.pass rfl rfl (hg_1_2) rfl ?_
  refine AK.pass rfl rfl (hg_1_2) rfl ?_
  refine .v (.pickF rfl (hg_1_2) rfl) (.as rfl (.nt hK2 (.ret ?_)))
  refine AK.ret1 rfl rfl (fun w hw=>⟨_,_,?_,rfl,Ret.of (hw.pick [] (by decide) rfl rfl)⟩)
  refine ⟨congrArg Value.bool ?_,rfl⟩
  first | (simp_all;done) | (simp_all <;> omega)
def MeaS (e:Ex):Prop:=∀ (w:World) (s:Value) (h:RdK (cellR (fun _=>False) w) s e.kids),CallS Tryz.prog 90 [.agg #[.int .i64 e.op,.int .i64 e.lt,s],.int .i64 400] w (fun r o=>(∃ D:Int,r = .tuple #[.int .i64 ((min (szE e) 401:Nat):Int),.int .i64 D])∧o=[])
set_option maxHeartbeats 1000000 in
theorem s_mea_step (e:Ex) (ih:∀ i,i<e.kids.length→MeaS (e.kids.getD i default)) (w:World) (s:Value) (h:RdK (cellR (fun _=>False) w) s e.kids):CallS Tryz.prog 90 [.agg #[.int .i64 e.op,.int .i64 e.lt,s],.int .i64 400] w (fun r o=>(∃ D:Int,r = .tuple #[.int .i64 ((min (szE e) 401:Nat):Int),.int .i64 D])∧o=[]):=by
 obtain ⟨ss,hl,hx,hk⟩:=h.inv
 have hr:=hx.rd
 have hm:=hr.le
 refine spec_of Tryz.func90 rfl (leb rfl) ?_
 refine .sr fun _ hK1=>?_
 refine AK.box_ (E:=24) (cs:=[.int .i64 e.op,.int .i64 e.lt,s]) rfl rfl rfl trivial rfl (fun bx2=>?_)
 refine .as rfl (.as rfl (.nt hK1 ?_))
 refine .sr fun _ hK2=>?_
 refine .as rfl (.as rfl (.nt hK2 ?_))
 refine .seq fun _ hK3=>?_
 refine .sr fun _ hK4=>?_
 refine .as rfl (.nt hK4 (.block ?_))
 refine AK.loopK (X:=Nat × Int) [(1,_),(2,_)] (fun x=>[(6,.int .i64 ((min (1+szL (e.kids.take x.1)) 401:Nat):Int)),(7,.int .i64 x.2),(8,.int .i64 (x.1:Int))]) (fun x=>[box bx2 24 3 [.int .i64 e.op,.int .i64 e.lt,s]]) (fun x=>x.1≤e.kids.length) (fun x=>e.kids.length - x.1) ((0,0)) slr ?_ ?_ ?_ ?_
 ·exact Nat.zero_le _
 ·exact .cons (slI rfl (by simp [szL_nil])) (slr)
 ·exact fun w hw=>hw
 ·intro x hg0 _ hK5
  refine .seq fun _ hK6=>?_
  refine .sr fun _ hK7=>?_
  refine .mv rfl (.v (.fieldAddr fd24_2 rfl) (.v (.loadBox on22 rfl bsp rfl) (.v (.lenR sl22 rfl rdp) (.v (.lss rfl rfl) (.mv rfl ?_)))))
  refine AK.splitB (g:=16) rfl (fun hg_3_5=>?_) (fun hg_3_5=>?_)
  ·have hg_3_5':=hg_3_5
   try simp only [bs] at hg_3_5'
   refine AK.val _ (Yl.move rfl) ⟨_,rfl,gB hg_3_5⟩ rfl ?_
   refine AK.val _ (Yl.move rfl) ⟨_,rfl,gB hg_3_5⟩ rfl ?_
   refine AK.val _ (Yl.leq rfl rfl) ⟨_,rfl,gB hg_3_5⟩ rfl ?_
   refine .v (.pickT rfl (hg_3_5) rfl) (.nt hK7 ?_)
   refine AK.condD rfl (fun hc0=>?_) (fun hc0=>?_)
   ·have hkx:x.1<e.kids.length:=by have:=hg_3_5;simp at this;omega
    have hlex:min (1+szL (e.kids.take x.1)) 401≤400:=by have:=hc0;omega
    have sk:=(hk x.1 hkx).sl
    refine .skip ?_
    refine AK.then_ (hK6 _ ?_)
    refine .seq fun _ hK8=>?_
    refine .block ?_
    refine .sr fun _ hK9=>?_
    refine .v (.fieldAddr fd24_2 rfl) (.v (.loadBox on22 rfl bsp rfl) (.mv rfl ?_))
    first | refine .v (.iN sl22 rfl rfl) ?_ | refine .v (.iK sl22 rfl rfl) ?_
    refine .v (.loadE ag24 rfl rdp (by assumption) rfl (by omega)) ?_
    refine .mv rfl ?_
    refine AK.call co90 rfl (fun w hw=>ih x.1 hkx w _ ((hk x.1 hkx).at hw)) trivial rfl ?_
    rintro r o ⟨⟨D,rfl⟩,rfl⟩
    refine .mv rfl (.v (.extract rfl rfl) (.v (.extract rfl rfl) (.as rfl (.as rfl (.nt hK9 ?_)))))
    refine AK.region ?_
    refine .mv rfl (.mv rfl ?_)
    refine .v (.add rfl rfl (by omega)) ?_
    refine .mv rfl ?_
    refine .v (.add rfl rfl (by omega)) ?_
    refine .v (.min rfl rfl) (.mv rfl (.mv rfl (.v (.max rfl rfl) (.as rfl (.as rfl (.nil (.block_normal ?_)))))))
    refine AK.then_ (hK8 _ ?_)
    refine AK.region ?_
    refine .mv rfl ?_
    refine .v (.add rfl rfl (by omega)) ?_
    refine .as rfl (.nil ?_)
    refine AK.then_ (hK5 _ _ ((x.1+1,max x.2 D)) (by dsimp only;omega) (by dsimp only;omega) (.cons (slI rfl (by dsimp only;rw [szL_take_next (by omega)];omega)) (slr)) (fun w hw=>hw.pick [0] (by decide) rfl rfl))
   ·refine .exit (.then_exit (.then_exit (.block_exit ?_)))
    refine AK.then_ (hK3 _ ?_)
    refine .sr fun _ hK10=>?_
    refine .mv rfl (.mv rfl (.v (.addW rfl rfl) (.as rfl (.as rfl (.nt hK10 (.ret ?_))))))
    refine AK.ret2 rfl rfl rfl (fun w hw=>⟨_,_,?_,rfl,Ret.of (hw.pick [] (by decide) rfl rfl)⟩)
    refine ⟨⟨IntKind.i64.wrap (x.2+1),?_⟩,rfl⟩
    have hn:min (1+szL (e.kids.take x.1)) 401=min (szE e) 401:=by
     rw [szE_eq]
     have h1:=szL_take_le e.kids x.1
     by_cases hx:x.1=e.kids.length
     ·rw [hx,List.take_length]
     ·have h2:¬ (min (1+szL (e.kids.take x.1)) 401≤400):=by simp_all;omega
      omega
    rw [hn]
  ·have hg_3_5':=hg_3_5
   try simp only [bs] at hg_3_5'
   refine AK.pass rfl rfl (hg_3_5) rfl ?_
   refine AK.pass rfl rfl (hg_3_5) rfl ?_
   refine AK.pass rfl rfl (hg_3_5) rfl ?_
   refine .v (.pickF rfl (hg_3_5) rfl) (.nt hK7 ?_)
   refine AK.cond_f rfl (rfl) ?_
   refine .exit (.then_exit (.then_exit (.block_exit ?_)))
   refine AK.then_ (hK3 _ ?_)
   refine .sr fun _ hK11=>?_
   refine .mv rfl (.mv rfl (.v (.addW rfl rfl) (.as rfl (.as rfl (.nt hK11 (.ret ?_))))))
   refine AK.ret2 rfl rfl rfl (fun w hw=>⟨_,_,?_,rfl,Ret.of (hw.pick [] (by decide) rfl rfl)⟩)
   refine ⟨⟨IntKind.i64.wrap (x.2+1),?_⟩,rfl⟩
   have hn:min (1+szL (e.kids.take x.1)) 401=min (szE e) 401:=by
    rw [szE_eq]
    have h1:=szL_take_le e.kids x.1
    by_cases hx:x.1=e.kids.length
    ·rw [hx,List.take_length]
    ·have h2:¬ (min (1+szL (e.kids.take x.1)) 401≤400):=by simp_all;omega
     omega
   rw [hn]
theorem s_mea (e:Ex):MeaS e:=Ex.ind (P:=MeaS) (fun e ih w s h=>s_mea_step e ih w s h) e
def ShpS (n:Int) (e:Ex):Prop:=∀ (w:World) (s:Value) (h:RdK (cellR (fun _=>False) w) s e.kids),CallS Tryz.prog 89 [.agg #[.int .i64 e.op,.int .i64 e.lt,s],.int .i64 n] w (fun r o=>r = .bool (wfE n e)∧o=[])
set_option maxHeartbeats 2000000 in
theorem s_shp_step (n:Int) (e:Ex) (ih:∀ i,i<e.kids.length→ShpS n (e.kids.getD i default)) (w:World) (s:Value) (h:RdK (cellR (fun _=>False) w) s e.kids):CallS Tryz.prog 89 [.agg #[.int .i64 e.op,.int .i64 e.lt,s],.int .i64 n] w (fun r o=>r = .bool (wfE n e)∧o=[]):=by
 obtain ⟨ss,hl,hx,hk⟩:=h.inv
 have hr:=hx.rd
 have hm:=hr.le
 refine spec_of Tryz.func89 rfl (leb rfl) ?_
 refine .sr fun _ hK1=>?_
 refine AK.box_ (E:=24) (cs:=[.int .i64 e.op,.int .i64 e.lt,s]) rfl rfl rfl trivial rfl (fun bx2=>?_)
 refine .as rfl (.nt hK1 ?_)
 refine .sr fun _ hK2=>?_
 refine .v (.fieldAddr fd24_2 rfl) (.v (.loadBox on22 rfl bsp rfl) (.v (.lenR sl22 rfl rdp) (.as rfl (.nt hK2 ?_))))
 refine AK.seqJ (X:=Bool) [(1,_),(2,_),(5,_)] (fun u=>[(6,.bool u)]) (fun u=>[box bx2 24 3 [.int .i64 e.op,.int .i64 e.lt,s]]) (fun u=>u=ok0E e) slr (fun _ hK3=>?_) (fun u hg=>?_)
 ·refine AK.region ?_
  refine .v (.fieldAddr fd24_0 rfl) (.v (.loadBox on3 rfl bsp rfl) (.v (.geq rfl rfl) (.mv rfl ?_)))
  refine AK.splitB (g:=14) rfl (fun hg_2_3=>?_) (fun hg_2_3=>?_)
  ·have hg_2_3':=hg_2_3
   try simp only [bs] at hg_2_3'
   refine AK.val _ (Yl.fieldAddr fd24_0 rfl) ⟨_,rfl,gB hg_2_3⟩ rfl ?_
   refine AK.val _ (Yl.loadBox on3 rfl bsp rfl) ⟨_,rfl,gB hg_2_3⟩ rfl ?_
   refine AK.val _ (Yl.leq rfl rfl) ⟨_,rfl,gB hg_2_3⟩ rfl ?_
   refine .v (.pickT rfl (hg_2_3) rfl) (.as rfl (.nil ?_))
   refine AK.then_ (hK3 _ _ (ok0E e) rfl (.cons (slB rfl (by first | (simp_all [ok0E,ok1E,ok2E];done) | (simp_all [ok0E,ok1E,ok2E] <;> omega) | grind [ok0E,ok1E,ok2E])) (slr)) (fun w hw=>hw))
  ·have hg_2_3':=hg_2_3
   try simp only [bs] at hg_2_3'
   refine AK.pass rfl rfl (hg_2_3) rfl ?_
   refine AK.pass rfl rfl (hg_2_3) rfl ?_
   refine AK.pass rfl rfl (hg_2_3) rfl ?_
   refine .v (.pickF rfl (hg_2_3) rfl) (.as rfl (.nil ?_))
   refine AK.then_ (hK3 _ _ (ok0E e) rfl (.cons (slB rfl (by first | (simp_all [ok0E,ok1E,ok2E];done) | (simp_all [ok0E,ok1E,ok2E] <;> omega) | grind [ok0E,ok1E,ok2E])) (slr)) (fun w hw=>hw))
 ·subst hg
  refine AK.seqJ (X:=Bool) [(1,_),(2,_),(5,_)] (fun u=>[(6,.bool u)]) (fun u=>[box bx2 24 3 [.int .i64 e.op,.int .i64 e.lt,s]]) (fun u=>u=ok1E e) slr (fun _ hK4=>?_) (fun u hg=>?_)
  ·refine .sr fun _ hK5=>?_
   refine .v (.fieldAddr fd24_0 rfl) (.v (.loadBox on3 rfl bsp rfl) (.nt hK5 (.block ?_)))
   refine .seq fun _ hK6=>?_
   refine .sr fun _ hK7=>?_
   refine .v (.eql rfl rfl) (.as rfl (.nt hK7 ?_))
   refine AK.condD rfl (fun hc0=>?_) (fun hc0=>?_)
   ·refine .skip ?_
    refine AK.then_ (hK6 _ ?_)
    refine AK.cond_t rfl (decide_eq_true hc0) ?_
    refine AK.region ?_
    refine .mv rfl (.v (.eql rfl rfl) (.as rfl (.nil (.block_normal ?_))))
    refine AK.then_ (hK4 _ _ (ok1E e) rfl (.cons (slB rfl (by first | (simp_all [ok0E,ok1E,ok2E];done) | (simp_all [ok0E,ok1E,ok2E] <;> omega) | grind [ok0E,ok1E,ok2E])) (slr)) (fun w hw=>hw))
   ·refine .sr fun _ hK8=>?_
    refine .v (.eql rfl rfl) (.as rfl (.nt hK8 ?_))
    refine AK.condD rfl (fun hc1=>?_) (fun hc1=>?_)
    ·refine .skip ?_
     refine AK.then_ (hK6 _ ?_)
     refine AK.cond_t rfl (decide_eq_true hc1) ?_
     refine AK.region ?_
     refine .mv rfl (.v (.eql rfl rfl) (.as rfl (.nil (.block_normal ?_))))
     refine AK.then_ (hK4 _ _ (ok1E e) rfl (.cons (slB rfl (by first | (simp_all [ok0E,ok1E,ok2E];done) | (simp_all [ok0E,ok1E,ok2E] <;> omega) | grind [ok0E,ok1E,ok2E])) (slr)) (fun w hw=>hw))
    ·refine AK.region ?_
     refine .v (.eql rfl rfl) (.as rfl (.nt hK6 ?_))
     refine AK.condD rfl (fun hc2=>?_) (fun hc2=>?_)
     ·refine AK.region ?_
      refine .mv rfl (.v (.eql rfl rfl) (.as rfl (.nil (.block_normal ?_))))
      refine AK.then_ (hK4 _ _ (ok1E e) rfl (.cons (slB rfl (by first | (simp_all [ok0E,ok1E,ok2E];done) | (simp_all [ok0E,ok1E,ok2E] <;> omega) | grind [ok0E,ok1E,ok2E])) (slr)) (fun w hw=>hw))
     ·refine .seq fun _ hK9=>?_
      refine .sr fun _ hK10=>?_
      refine .v (.eql rfl rfl) (.as rfl (.nt hK10 ?_))
      refine AK.condD rfl (fun hc3=>?_) (fun hc3=>?_)
      ·refine .skip ?_
       refine AK.then_ (hK9 _ ?_)
       refine AK.cond_t rfl (decide_eq_true hc3) ?_
       refine AK.region ?_
       refine .mv rfl (.v (.eql rfl rfl) (.as rfl (.nil (.block_normal ?_))))
       refine AK.then_ (hK4 _ _ (ok1E e) rfl (.cons (slB rfl (by first | (simp_all [ok0E,ok1E,ok2E];done) | (simp_all [ok0E,ok1E,ok2E] <;> omega) | grind [ok0E,ok1E,ok2E])) (slr)) (fun w hw=>hw))
      ·refine AK.region ?_
       refine .v (.eql rfl rfl) (.as rfl (.nt hK9 ?_))
       refine AK.condD rfl (fun hc4=>?_) (fun hc4=>?_)
       ·refine AK.region ?_
        refine .mv rfl (.v (.eql rfl rfl) (.as rfl (.nil (.block_normal ?_))))
        refine AK.then_ (hK4 _ _ (ok1E e) rfl (.cons (slB rfl (by first | (simp_all [ok0E,ok1E,ok2E];done) | (simp_all [ok0E,ok1E,ok2E] <;> omega) | grind [ok0E,ok1E,ok2E])) (slr)) (fun w hw=>hw))
       ·refine AK.region ?_
        refine .mv rfl (.mv rfl ?_)
        refine AK.splitB (g:=22) rfl (fun hg_4_1=>?_) (fun hg_4_1=>?_)
        ·have hg_4_1':=hg_4_1
         try simp only [bs] at hg_4_1'
         refine AK.val _ (Yl.move rfl) ⟨_,rfl,gB hg_4_1⟩ rfl ?_
         refine AK.val _ (Yl.geq rfl rfl) ⟨_,rfl,gB hg_4_1⟩ rfl ?_
         refine .v (.pickT rfl (hg_4_1) rfl) (.as rfl (.nil (.block_normal ?_)))
         refine AK.then_ (hK4 _ _ (ok1E e) rfl (.cons (slB rfl (by first | (simp_all [ok0E,ok1E,ok2E];done) | (simp_all [ok0E,ok1E,ok2E] <;> omega) | grind [ok0E,ok1E,ok2E])) (slr)) (fun w hw=>hw))
        ·have hg_4_1':=hg_4_1
         try simp only [bs] at hg_4_1'
         refine AK.pass rfl rfl (hg_4_1) rfl ?_
         refine AK.pass rfl rfl (hg_4_1) rfl ?_
         refine .v (.pickF rfl (hg_4_1) rfl) (.as rfl (.nil (.block_normal ?_)))
         refine AK.then_ (hK4 _ _ (ok1E e) rfl (.cons (slB rfl (by first | (simp_all [ok0E,ok1E,ok2E];done) | (simp_all [ok0E,ok1E,ok2E] <;> omega) | grind [ok0E,ok1E,ok2E])) (slr)) (fun w hw=>hw))
  ·subst hg
   refine AK.seqJ (X:=Bool) [(1,_),(2,_),(5,_)] (fun u=>[(6,.bool u)]) (fun u=>[box bx2 24 3 [.int .i64 e.op,.int .i64 e.lt,s]]) (fun u=>u=ok2E n e) slr (fun _ hK11=>?_) (fun u hg=>?_)
   ·refine .sr fun _ hK12=>?_
    refine .v (.fieldAddr fd24_0 rfl) (.v (.loadBox on3 rfl bsp rfl) (.v (.eql rfl rfl) (.nt hK12 ?_)))
    refine AK.condD rfl (fun hc5=>?_) (fun hc5=>?_)
    ·refine AK.region ?_
     refine .mv rfl (.mv rfl ?_)
     refine AK.splitB (g:=41) rfl (fun hg_13_1=>?_) (fun hg_13_1=>?_)
     ·have hg_13_1':=hg_13_1
      try simp only [bs] at hg_13_1'
      refine AK.val _ (Yl.fieldAddr fd24_1 rfl) ⟨_,rfl,gB hg_13_1⟩ rfl ?_
      refine AK.val _ (Yl.loadBox on3 rfl bsp rfl) ⟨_,rfl,gB hg_13_1⟩ rfl ?_
      refine AK.val _ (Yl.geq rfl rfl) ⟨_,rfl,gB hg_13_1⟩ rfl ?_
      refine .v (.pickT rfl (hg_13_1) rfl) (.mv rfl ?_)
      refine AK.splitB (g:=46) rfl (fun hg_13_6=>?_) (fun hg_13_6=>?_)
      ·have hg_13_6':=hg_13_6
       try simp only [bs] at hg_13_6'
       refine AK.val _ (Yl.fieldAddr fd24_1 rfl) ⟨_,rfl,gB hg_13_6⟩ rfl ?_
       refine AK.val _ (Yl.loadBox on3 rfl bsp rfl) ⟨_,rfl,gB hg_13_6⟩ rfl ?_
       refine AK.val _ (Yl.move rfl) ⟨_,rfl,gB hg_13_6⟩ rfl ?_
       refine AK.val _ (Yl.lss rfl rfl) ⟨_,rfl,gB hg_13_6⟩ rfl ?_
       refine .v (.pickT rfl (hg_13_6) rfl) (.as rfl (.nil ?_))
       refine AK.then_ (hK11 _ _ (ok2E n e) rfl (.cons (slB rfl (by first | (simp_all [ok0E,ok1E,ok2E];done) | (simp_all [ok0E,ok1E,ok2E] <;> omega) | grind [ok0E,ok1E,ok2E])) (slr)) (fun w hw=>hw))
      ·have hg_13_6':=hg_13_6
       try simp only [bs] at hg_13_6'
       refine AK.pass rfl rfl (hg_13_6) rfl ?_
       refine AK.pass rfl rfl (hg_13_6) rfl ?_
       refine AK.pass rfl rfl (hg_13_6) rfl ?_
       refine AK.pass rfl rfl (hg_13_6) rfl ?_
       refine .v (.pickF rfl (hg_13_6) rfl) (.as rfl (.nil ?_))
       refine AK.then_ (hK11 _ _ (ok2E n e) rfl (.cons (slB rfl (by first | (simp_all [ok0E,ok1E,ok2E];done) | (simp_all [ok0E,ok1E,ok2E] <;> omega) | grind [ok0E,ok1E,ok2E])) (slr)) (fun w hw=>hw))
     ·have hg_13_1':=hg_13_1
      try simp only [bs] at hg_13_1'
      refine AK.pass rfl rfl (hg_13_1) rfl ?_
      refine AK.pass rfl rfl (hg_13_1) rfl ?_
      refine AK.pass rfl rfl (hg_13_1) rfl ?_
      refine .v (.pickF rfl (hg_13_1) rfl) (.mv rfl ?_)
      refine AK.pass rfl rfl rfl rfl ?_
      refine AK.pass rfl rfl rfl rfl ?_
      refine AK.pass rfl rfl rfl rfl ?_
      refine AK.pass rfl rfl rfl rfl ?_
      refine .v (.pickF rfl (rfl) rfl) (.as rfl (.nil ?_))
      refine AK.then_ (hK11 _ _ (ok2E n e) rfl (.cons (slB rfl (by first | (simp_all [ok0E,ok1E,ok2E];done) | (simp_all [ok0E,ok1E,ok2E] <;> omega) | grind [ok0E,ok1E,ok2E])) (slr)) (fun w hw=>hw))
    ·refine AK.region ?_
     refine .mv rfl (.mv rfl ?_)
     refine AK.splitB (g:=53) rfl (fun hg_14_1=>?_) (fun hg_14_1=>?_)
     ·have hg_14_1':=hg_14_1
      try simp only [bs] at hg_14_1'
      refine AK.val _ (Yl.fieldAddr fd24_1 rfl) ⟨_,rfl,gB hg_14_1⟩ rfl ?_
      refine AK.val _ (Yl.loadBox on3 rfl bsp rfl) ⟨_,rfl,gB hg_14_1⟩ rfl ?_
      refine AK.val _ (Yl.eql rfl rfl) ⟨_,rfl,gB hg_14_1⟩ rfl ?_
      refine .v (.pickT rfl (hg_14_1) rfl) (.as rfl (.nil ?_))
      refine AK.then_ (hK11 _ _ (ok2E n e) rfl (.cons (slB rfl (by first | (simp_all [ok0E,ok1E,ok2E];done) | (simp_all [ok0E,ok1E,ok2E] <;> omega) | grind [ok0E,ok1E,ok2E])) (slr)) (fun w hw=>hw))
     ·have hg_14_1':=hg_14_1
      try simp only [bs] at hg_14_1'
      refine AK.pass rfl rfl (hg_14_1) rfl ?_
      refine AK.pass rfl rfl (hg_14_1) rfl ?_
      refine AK.pass rfl rfl (hg_14_1) rfl ?_
      refine .v (.pickF rfl (hg_14_1) rfl) (.as rfl (.nil ?_))
      refine AK.then_ (hK11 _ _ (ok2E n e) rfl (.cons (slB rfl (by first | (simp_all [ok0E,ok1E,ok2E];done) | (simp_all [ok0E,ok1E,ok2E] <;> omega) | grind [ok0E,ok1E,ok2E])) (slr)) (fun w hw=>hw))
   ·subst hg
    refine .seq fun _ hK13=>?_
    refine .sr fun _ hK14=>?_
    refine .as rfl (.nt hK14 (.block ?_))
    refine AK.loopK (X:=Nat × Bool) [(1,_),(2,_),(5,_)] (fun x=>[(6,.bool x.2),(7,.int .i64 (x.1:Int))]) (fun x=>[box bx2 24 3 [.int .i64 e.op,.int .i64 e.lt,s]]) (fun x=>x.1≤e.kids.length∧x.2=(ok2E n e && (e.kids.take x.1).all (wfE n))) (fun x=>e.kids.length - x.1) ((0,ok2E n e)) slr ?_ ?_ ?_ ?_
    ·exact ⟨Nat.zero_le _,by simp⟩
    ·exact slr
    ·exact fun w hw=>hw
    ·intro x hg0 _ hK15
     refine .seq fun _ hK16=>?_
     refine .sr fun _ hK17=>?_
     refine .mv rfl (.mv rfl (.v (.lss rfl rfl) (.mv rfl ?_)))
     refine AK.splitB (g:=61) rfl (fun hg_16_3=>?_) (fun hg_16_3=>?_)
     ·have hg_16_3':=hg_16_3
      try simp only [bs] at hg_16_3'
      refine AK.val _ (Yl.move rfl) ⟨_,rfl,gB hg_16_3⟩ rfl ?_
      refine .v (.pickT rfl (hg_16_3) rfl) (.nt hK17 ?_)
      refine AK.cond rfl (fun hc6=>?_) (fun hc6=>?_)
      ·try simp only [bs] at hc6
       have hkx:x.1<e.kids.length:=by have:=hg_16_3;simp at this;omega
       have hxt:x.2=true:=hc6
       have sk:=(hk x.1 hkx).sl
       refine .skip ?_
       refine AK.then_ (hK16 _ ?_)
       refine .seq fun _ hK18=>?_
       refine .block ?_
       refine AK.region ?_
       refine .v (.fieldAddr fd24_2 rfl) (.v (.loadBox on22 rfl bsp rfl) (.mv rfl ?_))
       first | refine .v (.iN sl22 rfl rfl) ?_ | refine .v (.iK sl22 rfl rfl) ?_
       refine .v (.loadE ag24 rfl rdp (by assumption) rfl (by omega)) ?_
       refine .mv rfl ?_
       refine AK.call co89 rfl (fun w hw=>ih x.1 hkx w _ ((hk x.1 hkx).at hw)) trivial rfl ?_
       rintro r o ⟨rfl,rfl⟩
       refine .as rfl (.nil (.block_normal ?_))
       refine AK.then_ (hK18 _ ?_)
       refine AK.region ?_
       refine .mv rfl ?_
       refine .v (.add rfl rfl (by omega)) ?_
       refine .as rfl (.nil ?_)
       refine AK.then_ (hK15 _ _ ((x.1+1,wfE n (e.kids.getD x.1 default))) ⟨by dsimp only;omega,by dsimp only;rw [all_take_nextX hkx,← Bool.and_assoc,← hg0.2,hxt,Bool.true_and]⟩ (by dsimp only;omega) (slr) (fun w hw=>hw.pick [0] (by decide) rfl rfl))
      ·try simp only [bs] at hc6
       refine .exit (.then_exit (.then_exit (.block_exit ?_)))
       refine AK.then_ (hK13 _ ?_)
       refine .sr fun _ hK19=>?_
       refine .mv rfl (.as rfl (.nt hK19 (.ret ?_)))
       refine AK.ret1 rfl rfl (fun w hw=>⟨_,_,?_,rfl,Ret.of (hw.pick [] (by decide) rfl rfl)⟩)
       refine ⟨congrArg Value.bool ?_,rfl⟩
       rw [wf_ok2,hg0.2]
       by_cases hx:x.1=e.kids.length
       ·rw [hx,List.take_length]
       ·have h2:x.2=false:=by first | (simp_all;done) | (simp_all;omega)
        rw [h2] at hg0
        rw [← hg0.2]
        cases h3:ok2E n e with
        | false=>rfl
        | true=>
         have h4:(e.kids.take x.1).all (wfE n)=false:=by rw [h3,Bool.true_and] at hg0;exact hg0.2.symm
         rw [all_take_falseX h4];rfl
     ·have hg_16_3':=hg_16_3
      try simp only [bs] at hg_16_3'
      refine AK.pass rfl rfl (hg_16_3) rfl ?_
      refine .v (.pickF rfl (hg_16_3) rfl) (.nt hK17 ?_)
      refine AK.cond_f rfl (rfl) ?_
      refine .exit (.then_exit (.then_exit (.block_exit ?_)))
      refine AK.then_ (hK13 _ ?_)
      refine .sr fun _ hK20=>?_
      refine .mv rfl (.as rfl (.nt hK20 (.ret ?_)))
      refine AK.ret1 rfl rfl (fun w hw=>⟨_,_,?_,rfl,Ret.of (hw.pick [] (by decide) rfl rfl)⟩)
      refine ⟨congrArg Value.bool ?_,rfl⟩
      rw [wf_ok2,hg0.2]
      by_cases hx:x.1=e.kids.length
      ·rw [hx,List.take_length]
      ·have h2:x.2=false:=by first | (simp_all;done) | (simp_all;omega)
       rw [h2] at hg0
       rw [← hg0.2]
       cases h3:ok2E n e with
       | false=>rfl
       | true=>
        have h4:(e.kids.take x.1).all (wfE n)=false:=by rw [h3,Bool.true_and] at hg0;exact hg0.2.symm
        rw [all_take_falseX h4];rfl
theorem s_shp (n:Int) (e:Ex):ShpS n e:=Ex.ind (P:=ShpS n) (fun e ih w s h=>s_shp_step n e ih w s h) e
theorem s_rwithin (w:World) (e:Ex) (s:Value) (h:RdK (cellR (fun _=>False) w) s e.kids):CallS Tryz.prog 88 [.agg #[.int .i64 e.op,.int .i64 e.lt,s]] w (fun r o=>(∃ b,r = .bool b)∧o=[]):=by
 have sk:=h.sl
 refine spec_of Tryz.func88 rfl (leb rfl) ?_
 refine .sr fun _ hK1=>?_
 refine AK.box_ (E:=24) (cs:=[.int .i64 e.op,.int .i64 e.lt,s]) rfl rfl rfl trivial rfl (fun bx1=>?_)
 refine .as rfl (.nt hK1 ?_)
 refine .sr fun _ hK2=>?_
 refine .v (.loadBoxG ag24 rfl bsp rfl rfl) ?_
 refine AK.call co90 rfl (fun w hw=>s_mea e w s (h.at hw)) trivial rfl ?_
 rintro r o ⟨⟨D,rfl⟩,rfl⟩
 refine .mv rfl (.v (.extract rfl rfl) (.v (.extract rfl rfl) (.as rfl (.as rfl (.nt hK2 ?_)))))
 refine .sr fun _ hK3=>?_
 refine .mv rfl (.v (.leq rfl rfl) (.mv rfl ?_))
 refine AK.splitB (g:=12) rfl (fun hg_2_2=>?_) (fun hg_2_2=>?_)
 ·have hg_2_2':=hg_2_2
  try simp only [bs] at hg_2_2'
  refine AK.val _ (Yl.move rfl) ⟨_,rfl,gB hg_2_2⟩ rfl ?_
  refine AK.val _ (Yl.leq rfl rfl) ⟨_,rfl,gB hg_2_2⟩ rfl ?_
  refine .v (.pickT rfl (hg_2_2) rfl) (.as rfl (.nt hK3 (.ret ?_)))
  refine AK.ret1 rfl rfl (fun w hw=>⟨_,_,?_,rfl,Ret.of (hw.pick [] (by decide) rfl rfl)⟩)
  exact ⟨⟨_,rfl⟩,rfl⟩
 ·have hg_2_2':=hg_2_2
  try simp only [bs] at hg_2_2'
  refine AK.pass rfl rfl (hg_2_2) rfl ?_
  refine AK.pass rfl rfl (hg_2_2) rfl ?_
  refine .v (.pickF rfl (hg_2_2) rfl) (.as rfl (.nt hK3 (.ret ?_)))
  refine AK.ret1 rfl rfl (fun w hw=>⟨_,_,?_,rfl,Ret.of (hw.pick [] (by decide) rfl rfl)⟩)
  exact ⟨⟨_,rfl⟩,rfl⟩
theorem s_rval (w:World) (e:Ex) (s:Value) (n:Int) (h:RdK (cellR (fun _=>False) w) s e.kids):CallS Tryz.prog 33 [.agg #[.int .i64 e.op,.int .i64 e.lt,s],.int .i64 n] w (fun r o=>(∃ er:Int,r = .int .i64 er∧(er=0→wfE n e=true))∧o=[]):=by
 have sk:=h.sl
 refine spec_of Tryz.func33 rfl (leb rfl) ?_
 refine .sr fun _ hK1=>?_
 refine AK.box_ (E:=24) (cs:=[.int .i64 e.op,.int .i64 e.lt,s]) rfl rfl rfl trivial rfl (fun bx2=>?_)
 refine .as rfl (.nt hK1 ?_)
 refine .seq fun _ hK2=>?_
 refine .block ?_
 refine .sr fun _ hK3=>?_
 refine .mv rfl ?_
 refine AK.call co35 rfl (fun w hw=>s_maylet w n) trivial rfl ?_
 rintro r o ⟨rfl,rfl⟩
 refine .v (.not rfl) (.as rfl (.nt hK3 ?_))
 refine AK.condB rfl (fun hc0=>?_) (fun hc0=>?_)
 ·refine .sr fun _ hK4=>?_
  refine .as rfl (.nt hK4 (.ret (.block_ret (.then_ret ?_))))
  refine AK.ret1 rfl rfl (fun w hw=>⟨_,_,?_,rfl,Ret.of (hw.pick [] (by decide) rfl rfl)⟩)
  exact ⟨⟨_,rfl,fun h=>absurd h (by decide)⟩,rfl⟩
 ·refine .sr fun _ hK5=>?_
  refine .v (.loadBoxG ag24 rfl bsp rfl rfl) ?_
  refine AK.call co88 rfl (fun w hw=>s_rwithin w e s (h.at hw)) trivial rfl ?_
  rintro r o ⟨⟨b,rfl⟩,rfl⟩
  refine .v (.not rfl) (.as rfl (.nt hK5 ?_))
  refine AK.condB rfl (fun hc1=>?_) (fun hc1=>?_)
  ·refine .sr fun _ hK6=>?_
   refine .as rfl (.nt hK6 (.ret (.block_ret (.then_ret ?_))))
   refine AK.ret1 rfl rfl (fun w hw=>⟨_,_,?_,rfl,Ret.of (hw.pick [] (by decide) rfl rfl)⟩)
   exact ⟨⟨_,rfl,fun h=>absurd h (by decide)⟩,rfl⟩
  ·refine .sr fun _ hK7=>?_
   refine .v (.loadBoxG ag24 rfl bsp rfl rfl) (.mv rfl ?_)
   refine AK.call co89 rfl (fun w hw=>s_shp n e w s (h.at hw)) trivial rfl ?_
   rintro r o ⟨rfl,rfl⟩
   refine .v (.not rfl) (.as rfl (.nt hK7 ?_))
   refine AK.condB rfl (fun hc2=>?_) (fun hc2=>?_)
   ·refine .sr fun _ hK8=>?_
    refine .as rfl (.nt hK8 (.ret (.block_ret (.then_ret ?_))))
    refine AK.ret1 rfl rfl (fun w hw=>⟨_,_,?_,rfl,Ret.of (hw.pick [] (by decide) rfl rfl)⟩)
    exact ⟨⟨_,rfl,fun h=>absurd h (by decide)⟩,rfl⟩
   ·refine .skip (.block_normal ?_)
    refine AK.then_ (hK2 _ ?_)
    refine .sr fun _ hK9=>?_
    refine .as rfl (.nt hK9 (.ret ?_))
    refine AK.ret1 rfl rfl (fun w hw=>⟨_,_,?_,rfl,Ret.of (hw.pick [] (by decide) rfl rfl)⟩)
    exact ⟨⟨_,rfl,fun _=>by simp_all⟩,rfl⟩
theorem s_rsize (w:World) (e:Ex) (s:Value) (h:RdK (cellR (fun _=>False) w) s e.kids):CallS Tryz.prog 34 [.agg #[.int .i64 e.op,.int .i64 e.lt,s]] w (fun r o=>r = .int .i64 ((min (szE e) 401:Nat):Int)∧o=[]):=by
 have sk:=h.sl
 refine spec_of Tryz.func34 rfl (leb rfl) ?_
 refine .sr fun _ hK1=>?_
 refine AK.box_ (E:=24) (cs:=[.int .i64 e.op,.int .i64 e.lt,s]) rfl rfl rfl trivial rfl (fun bx1=>?_)
 refine .as rfl (.nt hK1 ?_)
 refine .sr fun _ hK2=>?_
 refine .v (.loadBoxG ag24 rfl bsp rfl rfl) ?_
 refine AK.call co90 rfl (fun w hw=>s_mea e w s (h.at hw)) trivial rfl ?_
 rintro r o ⟨⟨D,rfl⟩,rfl⟩
 refine .mv rfl (.v (.extract rfl rfl) (.v (.extract rfl rfl) (.as rfl (.as rfl (.nt hK2 ?_)))))
 refine .sr fun _ hK3=>?_
 refine .mv rfl (.as rfl (.nt hK3 (.ret ?_)))
 refine AK.ret1 rfl rfl (fun w hw=>⟨_,_,?_,rfl,Ret.of (hw.pick [] (by decide) rfl rfl)⟩)
 exact ⟨rfl,rfl⟩
theorem s_little (w:World) (e:Ex) (s:Value) (m:Nat) (hm:m≤20) (h:RdK (cellR (fun _=>False) w) s e.kids):CallS Tryz.prog 7 [.agg #[.int .i64 e.op,.int .i64 e.lt,s],.int .i64 (m:Int)] w (fun r o=>(∃ b,r = .bool b∧(b=true→validE e 2=0∧szE e≤m))∧o=[]):=by
 have sk:=h.sl
 refine spec_of Tryz.func7 rfl (leb rfl) ?_
 refine .sr fun _ hK1=>?_
 refine AK.box_ (E:=24) (cs:=[.int .i64 e.op,.int .i64 e.lt,s]) rfl rfl rfl trivial rfl (fun bx2=>?_)
 refine .as rfl (.nt hK1 ?_)
 refine .sr fun _ hK2=>?_
 refine .v (.loadBoxG ag24 rfl bsp rfl rfl) ?_
 refine AK.call co33 rfl (fun w hw=>s_rval w e s 2 (h.at hw)) trivial rfl ?_
 rintro r o ⟨⟨er,rfl,her⟩,rfl⟩
 refine .v (.eql rfl rfl) (.mv rfl ?_)
 refine AK.splitB (g:=8) rfl (fun hg_1_3=>?_) (fun hg_1_3=>?_)
 ·have hg_1_3':=hg_1_3
  try simp only [bs] at hg_1_3'
  refine AK.val _ (Yl.loadBoxG ag24 rfl bsp rfl rfl) ⟨_,rfl,gB hg_1_3⟩ rfl ?_
  refine AK.call co34 rfl (fun w hw=>s_rsize w e s (h.at hw)) ⟨_,rfl,gB hg_1_3⟩ rfl ?_
  rintro r o ⟨rfl,rfl⟩
  refine AK.val _ (Yl.move rfl) ⟨_,rfl,gB hg_1_3⟩ rfl ?_
  refine AK.val _ (Yl.leq rfl rfl) ⟨_,rfl,gB hg_1_3⟩ rfl ?_
  refine .v (.pickT rfl (hg_1_3) rfl) (.as rfl (.nt hK2 (.ret ?_)))
  refine AK.ret1 rfl rfl (fun w hw=>⟨_,_,?_,rfl,Ret.of (hw.pick [] (by decide) rfl rfl)⟩)
  refine ⟨⟨_,rfl,fun hb=>?_⟩,rfl⟩
  have hz:er=0∧szE e≤m:=by
   first | (simp_all;done) | (simp_all <;> omega)
  exact ⟨valid_of (by decide) (by omega) (her hz.1),hz.2⟩
 ·have hg_1_3':=hg_1_3
  try simp only [bs] at hg_1_3'
  refine AK.pass rfl rfl (hg_1_3) rfl ?_
  refine AK.pass rfl rfl (hg_1_3) rfl ?_
  refine AK.pass rfl rfl (hg_1_3) rfl ?_
  refine AK.pass rfl rfl (hg_1_3) rfl ?_
  refine .v (.pickF rfl (hg_1_3) rfl) (.as rfl (.nt hK2 (.ret ?_)))
  refine AK.ret1 rfl rfl (fun w hw=>⟨_,_,?_,rfl,Ret.of (hw.pick [] (by decide) rfl rfl)⟩)
  refine ⟨⟨_,rfl,fun hb=>?_⟩,rfl⟩
  have hz:er=0∧szE e≤m:=by
   first | (simp_all;done) | (simp_all <;> omega)
  exact ⟨valid_of (by decide) (by omega) (her hz.1),hz.2⟩
end Go.Proofs.YtbibnpdnmmgacaaGreatDoor
namespace Go.Sx
open Go.RowKit
end Go.Sx
namespace Go.Proofs.YtbibnpdnmmgacaaGreatDoor
open Go.Sx Go.RowKit
theorem s_lim (w:World) (f:Int) (hf:f=0∨f=3):CallS Tryz.prog 13 [.int .i64 f] w (fun r o=>r = .bool true∧o=[]):=by
 refine spec_of Tryz.func13 rfl (leb rfl) ?_
 refine .sr fun _ hK1=>?_
 refine .as rfl (.nt hK1 ?_)
 refine .sr fun _ hK2=>?_
 refine .mv rfl (.v (.eql rfl rfl) (.mv rfl ?_))
 refine AK.splitB (g:=5) rfl (fun hg_1_2=>?_) (fun hg_1_2=>?_)
 ·have hg_1_2':=hg_1_2
  try simp only [bs] at hg_1_2'
  refine AK.pass rfl rfl (hg_1_2) rfl ?_
  refine AK.pass rfl rfl (hg_1_2) rfl ?_
  refine .v (.pickT rfl (hg_1_2) rfl) (.as rfl (.nt hK2 (.ret ?_)))
  refine AK.ret1 rfl rfl (fun w hw=>⟨_,_,?_,rfl,Ret.of (hw.pick [] (by decide) rfl rfl)⟩)
  refine ⟨congrArg Value.bool ?_,rfl⟩
  first | (simp_all;done) | (simp_all <;> omega)
 ·have hg_1_2':=hg_1_2
  try simp only [bs] at hg_1_2'
  refine AK.val _ (Yl.move rfl) ⟨_,rfl,gB hg_1_2⟩ rfl ?_
  refine AK.val _ (Yl.eql rfl rfl) ⟨_,rfl,gB hg_1_2⟩ rfl ?_
  refine .v (.pickF rfl (hg_1_2) rfl) (.as rfl (.nt hK2 (.ret ?_)))
  refine AK.ret1 rfl rfl (fun w hw=>⟨_,_,?_,rfl,Ret.of (hw.pick [] (by decide) rfl rfl)⟩)
  refine ⟨congrArg Value.bool ?_,rfl⟩
  first | (simp_all;done) | (simp_all <;> omega)
end Go.Proofs.YtbibnpdnmmgacaaGreatDoor
namespace Go.Sx
open Go.RowKit
def awD:Dfa:=⟨2,0,[true,false,false],[[1,2],[2,0],[2,2]]⟩
def exLa:Ex:=.mk 3 0 []
def exLb:Ex:=.mk 3 1 []
def exC:Ex:=.mk 5 0 [exLa,exLb]
theorem aw_min:(MinV awD).fin.length=3:=by decide +kernel
theorem aw_match:(leafS exLa [97] 0).getLsbD 1=true:=by decide +kernel
theorem aw_val:validE exLa 6=0:=by decide +kernel
theorem aw_leaf:leafOp exLa:=by unfold leafOp;decide
theorem aw_word:validW 6 [97]=true:=by decide +kernel
theorem aw_kids {l:List Itm} (h:Itm.deep nilV []∈l) (k:Nat) (hk:k < [exLa,exLb].length):Itm.deep ([nilV,nilV].getD k undef) ([exLa,exLb].getD k default).kids∈l:=by
 rcases k with _ | _ | k
 ·exact h
 ·exact h
 ·exact absurd hk (by simp)
theorem aw_kid {l:List Itm} {v:Value} (h:Itm.deep v [exLa,exLb]∈l) (k:Nat) (hk:k < [exC].length):Itm.deep ([v].getD k undef) ([exC].getD k default).kids∈l:=by
 rcases k with _ | k
 ·exact h
 ·exact absurd hk (by simp)
end Go.Sx
namespace Go.Proofs.YtbibnpdnmmgacaaGreatDoor
open Go.Sx Go.RowKit
theorem s_letter (w:World) (x:Int):CallS Tryz.prog 36 [.int .i64 x] w (fun r o=>r = .agg #[.int .i64 3,.int .i64 x,nilV]∧o=[]):=by
 refine spec_of Tryz.func36 rfl (leb rfl) ?_
 refine .sr fun _ hK1=>?_
 refine AK.alloc el24 rfl rfl trivial rfl (fun bx2=>?_)
 refine .nt hK1 ?_
 refine .sr fun _ hK2=>?_
 refine .mv rfl ?_
 refine .v (.build (parts:=[(0,.const (.int .i64 3)),(1,.tmp 3)]) (cs:=#[.int .i64 3,.int .i64 x,.slice none 0 0]) rfl (by kernel_rfl)) ?_
 refine AK.storeBox 0 (us:=[.int .i64 3,.int .i64 x,.slice none 0 0]) (cs':=[.int .i64 3,.int .i64 x,.slice none 0 0]) rfl sz24 rfl rfl rfl rfl oneP (leb rfl) rfl trivial ?_
 refine .nt hK2 (.ret ?_)
 refine AK.retG [.cell 2 24] rfl (.cons (.cell ag24 rfl bsp rfl rfl) (.nil)) (fun w hw=>⟨_,_,?_,rfl,Ret.of (hw.pick [] (by decide) rfl rfl)⟩)
 exact ⟨rfl,rfl⟩
theorem s_node (w:World) (op:Int) (v:Value) (hv:IsSl v):CallS Tryz.prog 20 [.int .i64 op,v] w (fun r o=>r = .agg #[.int .i64 op,.int .i64 0,v]∧o=[]):=by
 refine spec_of Tryz.func20 rfl (leb rfl) ?_
 refine .sr fun _ hK1=>?_
 refine AK.alloc el24 rfl rfl trivial rfl (fun bx4=>?_)
 refine .nt hK1 ?_
 refine .sr fun _ hK2=>?_
 refine .mv rfl (.mv rfl ?_)
 refine .v (.build (parts:=[(0,.tmp 5),(2,.tmp 6)]) (cs:=#[.int .i64 op,.int .i64 0,v]) rfl (by obtain ⟨_,_,_,rfl⟩:=hv;kernel_rfl)) ?_
 refine AK.storeBox 0 (us:=[.int .i64 op,.int .i64 0,v]) (cs':=[.int .i64 op,.int .i64 0,v]) rfl sz24 rfl rfl rfl rfl oneP (leb rfl) rfl trivial ?_
 refine .nt hK2 (.ret ?_)
 refine AK.retG [.cell 4 24] rfl (.cons (.cell ag24 rfl bsp rfl rfl) (.nil)) (fun w hw=>⟨_,_,?_,rfl,Ret.of (hw.pick [] (by decide) rfl rfl)⟩)
 exact ⟨rfl,rfl⟩
set_option maxHeartbeats 2000000 in
theorem s_awake (w:World) (hT:TbA w):CallS Tryz.prog 9 [] w (fun r o=>r = .bool true∧o=[]):=by
 refine spec_of Tryz.func9 rfl (leb rfl) ?_
 refine .sr fun _ hK1=>?_
 refine .as rfl (.nt hK1 ?_)
 refine .sr fun _ hK2=>?_
 refine AK.call co36 rfl (fun w hw=>s_letter w 0) trivial rfl ?_
 rintro r o ⟨rfl,rfl⟩
 refine AK.call co36 rfl (fun w hw=>s_letter w 1) trivial rfl ?_
 rintro r o ⟨rfl,rfl⟩
 refine AK.lit (xs:=[.tmp 4,.tmp 5]) sl22 el24 rfl rfl rfl (by simp [Value.cells]) (by decide) (by decide) trivial rfl (fun lv=>?_)
 refine AK.shape 0 rfl (fun slv=>?_)
 refine AK.call co20 rfl (fun w hw=>s_node w 5 lv slv) trivial rfl ?_
 rintro r o ⟨rfl,rfl⟩
 refine AK.lit (xs:=[.tmp 7]) sl22 el24 rfl rfl rfl (by simp [Value.cells]) (by decide) (by decide) trivial rfl (fun lw=>?_)
 refine AK.shape 1 rfl (fun slw=>?_)
 refine AK.call co20 rfl (fun w hw=>s_node w 7 lw slw) trivial rfl ?_
 rintro r o ⟨rfl,rfl⟩
 refine AK.newForest ⟨w,fun _=>False⟩ ?_
 refine AK.add' 2 (.deep nilV []) rfl (fun R=>RdK.nil R) (fun l1 hs1 hm1=>?_)
 refine AK.close' 2 0 [exLa,exLb] [nilV,nilV] (by decide) rfl rfl rfl rfl rfl (aw_kids hm1) (fun l2 hs2 hm2 _=>?_)
 refine AK.close' 2 1 [exC] [lv] (by decide) rfl rfl rfl rfl rfl (aw_kid hm2) (fun l3 hs3 hm3 _=>?_)
 refine AK.callN 2 rfl co11 rfl (fun w Fs hw hh hfr hal=>s_build w (Fs 2) ⟨_,fun _=>False⟩ l3 (fun b hb=>hb.elim) (hh.at_ 2 _ rfl) exAw lw hm3 2 (awD,0) build_aw) trivial rfl ?_
 rintro r A o ⟨vF,vN,rs,rfl,hrl,svF,svN,rfl,rfl⟩
 refine AK.flatAt [empA,empA] ?_
 refine .mv rfl (.v (.extract rfl rfl) (.v (.extract rfl rfl) ?_))
 refine AK.alloc el32 rfl rfl trivial rfl (fun bx1=>?_)
 refine AK.storeBox 5 (us:=[.int .i64 (2:Int),.int .i64 (0:Int),vF,vN]) (cs':=[.int .i64 (2:Int),.int .i64 (0:Int),vF,vN]) rfl sz32 rfl rfl rfl rfl oneP (leb rfl) rfl trivial ?_
 refine .as rfl (.nt hK2 ?_)
 refine .sr fun _ hK3=>?_
 refine .mv rfl (.v (.eql rfl rfl) (.mv rfl ?_))
 refine AK.knownT (g:=15) rfl (rfl) (fun hg_2_2=>?_)
 refine AK.val _ (Yl.loadBoxG ag32 rfl bsp rfl rfl) ⟨_,rfl,gB hg_2_2⟩ rfl ?_
 refine AK.call co15 rfl (fun w hw=>s_min w _ awD (RdD.own 2 hw hrl rfl rfl rfl)) ⟨_,rfl,gB hg_2_2⟩ rfl ?_
 rintro r o ⟨mF,mN,ms,rfl,hml,smF,smN,rfl⟩
 refine AK.val _ (Yl.fieldQ (FldQ.of (by kernel_rfl):FldQ _ 32 2 2) rfl rfl) ⟨_,rfl,gB hg_2_2⟩ rfl ?_
 refine AK.val _ (Yl.lenR sl29 rfl rdp) ⟨_,rfl,gB hg_2_2⟩ rfl ?_
 refine AK.val _ (Yl.eql rfl rfl) ⟨_,rfl,gB hg_2_2⟩ rfl ?_
 refine .v (.pickT rfl (hg_2_2) rfl) (.mv rfl ?_)
 refine AK.knownT (g:=22) rfl (by rw [aw_min];rfl) (fun hg_2_9=>?_)
 refine AK.call co36 rfl (fun w hw=>s_letter w 0) ⟨_,rfl,gB hg_2_9⟩ rfl ?_
 rintro r o ⟨rfl,rfl⟩
 refine AK.call co10 rfl (fun w hw=>s_match w exLa nilV (RdK.nil _) [97] (by decide) aw_word aw_val aw_leaf (hT.at hw)) ⟨_,rfl,gB hg_2_9⟩ rfl ?_
 rintro r o ⟨rfl,rfl⟩
 refine .v (.pickT rfl (hg_2_9) rfl) (.as rfl (.nt hK3 (.ret ?_)))
 refine AK.ret1 rfl rfl (fun w hw=>⟨_,_,?_,rfl,Ret.of (hw.pick [] (by decide) rfl rfl)⟩)
 exact ⟨congrArg Value.bool aw_match,rfl⟩
end Go.Proofs.YtbibnpdnmmgacaaGreatDoor
