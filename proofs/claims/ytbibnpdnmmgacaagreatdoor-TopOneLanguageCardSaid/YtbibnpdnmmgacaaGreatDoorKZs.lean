import Derived.Test.YtbibnpdnmmgacaaGreatDoorKZr
import Derived.Test.YtbibnpdnmmgacaaGreatDoorKZh
import Derived.Test.YtbibnpdnmmgacaaGreatDoorKZl
import Derived.Test.YtbibnpdnmmgacaaGreatDoorKZm
import Derived.Test.YtbibnpdnmmgacaaGreatDoorKZi
import Derived.Test.YtbibnpdnmmgacaaGreatDoorKZp
import Derived.Test.YtbibnpdnmmgacaaGreatDoorKZc
set_option linter.unusedVariables false
set_option linter.unusedSimpArgs false
set_option maxRecDepth 100000
namespace Go.Proofs.YtbibnpdnmmgacaaGreatDoor
open Go.Sx Go.RowKit
theorem U3 (e:Ex):RF e:=Ex.ind (P:=RF) (fun e ih w F pb v N c ba hN vY sv hT hF hA s h hz Hl=>EU e ih w F pb v N c ba hN vY sv hT hF hA s h hz Hl) e
theorem H7 (w:World) (s f:Value) (a b:Int) (ha:0≤a∧a≤4611686018427387904) (hb:b≤a+1):aK Tryz.prog 155 [s,.int .i64 a,.int .i64 b,f] w (fun r o=>o=[]):=by
 refine aC Tryz.func155 rfl (aT rfl) ?_
 refine .sr fun _ bl=>?_
 refine .mv rfl ?_
 refine .v (.add rfl rfl (by omega)) ?_
 refine .as rfl (.nt bl (.block ?_))
 refine .bE (X:=Unit) [(0,_),(1,_),(2,_),(3,_)] (fun x=>[(8,.int .i64 (a+1))]) (fun x=>[]) (fun x=>True) (fun x=>0) (()) aU ?_ ?_ ?_ ?_
 ·trivial
 ·exact aU
 ·exact fun w hw=>hw
 ·intro x aV _ bg
  refine .seq fun _ bW=>?_
  refine .sr fun _ cr=>?_
  refine .mv rfl (.mv rfl (.v (.lss rfl rfl) (.nt cr ?_)))
  refine .dH rfl (decide_eq_false (by omega)) ?_
  refine .exit (.ai (.ai (.ar ?_)))
  refine .jz [] rfl (.nil) (fun w hw=>⟨_,_,?_,rfl,.of (hw.pk [])⟩)
  rfl
theorem Se (w:World) (s f:Value) (n lm:Int) (hb:0≤n∧n≤1):aK Tryz.prog 109 [s,.int .i64 0,.int .i64 n,.int .i64 lm,f] w (fun r o=>o=[]):=by
 refine aC Tryz.func109 rfl (aT rfl) ?_
 refine .sr fun _ bl=>?_
 refine .as rfl (.nt bl ?_)
 refine .sr fun _ bg=>?_
 refine .as rfl (.nt bg (.block ?_))
 refine .bE (X:=Unit) [(0,_),(4,_)] (fun x=>[(1,.int .i64 0),(2,.int .i64 n),(3,.int .i64 lm),(10,.bool true),(11,.bool true)]) (fun x=>[]) (fun x=>True) (fun x=>0) (()) aU ?_ ?_ ?_ ?_
 ·trivial
 ·exact aU
 ·exact fun w hw=>hw
 ·intro x aV _ bW
  refine .block ?_
  refine .sr fun _ cr=>?_
  refine .mv rfl (.mv rfl ?_)
  refine .v (.sub rfl rfl (by omega)) ?_
  refine .as rfl (.nt cr ?_)
  refine .seq fun _ cJ=>?_
  refine .sr fun _ cU=>?_
  refine .mv rfl (.v (.leq rfl rfl) (.nt cU ?_))
  refine .cD rfl (decide_eq_true (by omega)) ?_
  refine .sr fun _ c7=>?_
  refine .mv rfl (.mv rfl (.mv rfl (.mv rfl ?_)))
  refine .call V0 rfl (fun w hw=>H7 w s f 0 n (by omega) (by omega)) trivial rfl ?_
  rintro r o rfl
  refine .nt c7 (.ret (.ae (.al (.ae (.al ?_)))))
  refine .cO [] rfl (.nil) (fun w hw=>⟨_,_,?_,rfl,.of (hw.pk [])⟩)
  rfl
theorem Lg (w:World) (s f:Value) (n:Nat) (cs:List Value) (hn:n≤1) (hr:Rd (fun b=>¬ (fun _=>False) b) w s 3 n cs):aK Tryz.prog 57 [s,f] w (fun r o=>o=[]):=by
 refine aC Tryz.func57 rfl (aT rfl) ?_
 refine .sr fun _ bl=>?_
 refine .mv rfl (.v (.aZ yt rfl a8) (.as rfl (.nt bl ?_)))
 refine .region ?_
 refine .mv rfl (.mv rfl (.mv rfl ?_))
 refine .v (.wy (by kernel_rfl) Pp rfl (wrap_u64 (by omega))) ?_
 refine .call P6 rfl (fun w hw=>vh (Tryz.bits_Len _ w (by omega) (by omega)) (φ:=fun r o=>r = .int .i64 (Lib.bitLen ((n:Int)).toNat)∧o=[]) ⟨rfl,rfl⟩) trivial rfl ?_
 rintro r o ⟨rfl,rfl⟩
 refine .mv rfl ?_
 refine .call Wf rfl (fun w hw=>Se w s f n _ (by omega)) trivial rfl ?_
 rintro r o rfl
 refine .nil ?_
 refine .jz [] rfl (.nil) (fun w hw=>⟨_,_,?_,rfl,.of (hw.pk [])⟩)
 rfl
theorem Ny:CB Tryz.prog 57 58 [] 3:=fun enc hk h1 cf hO qK off cap d w we hH hb hs=>
 Tryz.qm 3 (fun w=>iy Cm w) (fun w=>cI Cm.2 w) enc hk h1 cf hO 58 #[] qK off cap d w (zI UG) we hH hb hs
theorem Gu (w:World) (F:Nat→Prop) (v:Value) (es:List iV) (hn:es.length<4611686018427387904) (hA:(row v 98 3 es.length (rE es)).holds w F):ck Tryz.prog 57 [v,.func (.func 58) #[] #[]] w F (fun r A o=>∃ B6:List iV,A=row v 98 3 B6.length (rE B6)∧o=[]∧B6.Perm es∧B6.Pairwise fun a b=>qf b a=false):=by
 by_cases h0:1≤es.length
 ·exact ES Ny (fun w a b=>Kn w a b) w F v es ⟨h0,hn⟩ hA
 ·have he:es=[]:=List.eq_nil_of_length_eq_zero (by omega)
  subst he
  have h:=(Lg w v (.func (.func 58) #[] #[]) 0 [] (by omega) ((oT hA).mono fun b _ _=>⟨id,rfl⟩)).toM hA
  refine Calls.mono h ?_
  rintro e w' ⟨v',A,own',⟨rfl,ho⟩,h2,h3⟩
  exact ⟨v',_,own',⟨[],rfl,ho,List.Perm.refl _,.nil⟩,h2,h3⟩
set_option maxHeartbeats 4000000 in
theorem EX (w:World) (e:Ex) (s:Value) (h:dy (bD (fun _=>False) w) s e.kids) (hv:cg e 2=0) (hz:dt e≤10) (hT:vp w):aK Tryz.prog 17 [.agg #[.int .i64 e.op,.int .i64 e.lt,s],.int .i64 2] w (fun r o=>∃ (er:Int) (n:kc) (vE:Value),((er=4∧mX e=true∧n=Jl)∨(er=0∧mX e=false∧∃ es:List iV,n=Mr e es∧es.Perm (yu e)∧es.Pairwise fun a b=>qf b a=false))∧aB vE∧r = .tuple #[.agg #[.int .i64 n.L,.int .i64 n.S,uv n.st,uv n.fi,vE],.int .i64 er]∧o=[row vE 98 3 n.es.length (rE n.es)]):=by
 have sk:=h.sl
 have D3:=(iu hv).2.1
 have Hl:=pA (by decide:(2:Int)≤6) e D3
 have hlz:=An e
 have vY:(bK e).length<64:=by omega
 have aaO:(gp e).length=((bK e).length+1):=rfl
 have SI:(dJ e).2.2.length=((bK e).length+1):=(qW e (0,(List.replicate ((bK e).length+1) (0:cF))) (by dsimp only;omega)).len.trans (by simp)
 have aaQ:(dU e).length=((bK e).length+1):=(List.length_set ..).trans SI
 refine aC Tryz.func17 rfl (aT rfl) ?_
 refine .sr fun _ bl=>?_
 refine .cS (E:=24) (cs:=[.int .i64 e.op,.int .i64 e.lt,s]) rfl rfl rfl trivial rfl (fun eu=>?_)
 refine .alloc HD rfl rfl trivial rfl (fun iD=>?_)
 refine .as rfl (.nt bl ?_)
 refine .seq fun _ bg=>?_
 refine .sr fun _ bW=>?_
 refine .v (.ak aM rfl ax rfl rfl) (.mv rfl ?_)
 refine .call UJ rfl (fun w hw=>Gn w e s 2 (h.at hw)) trivial rfl ?_
 rintro r o ⟨rfl,rfl⟩
 rw [if_pos hv]
 refine .as rfl (.nt bW ?_)
 refine .sr fun _ cr=>?_
 refine .mv rfl (.v (.neq rfl rfl) (.nt cr ?_))
 refine .df rfl (fun bx=>?_) (fun bx=>?_)
 ·have hb:mX e=true:=by cases h:mX e with | true=>rfl | false=>rw [h] at bx;exact absurd rfl bx
  refine .sr fun _ cJ=>?_
  refine .v (.build (parts:=[]) (cs:=#[.int .i64 0,.int .i64 0,uv 0,uv 0,.slice none 0 0]) rfl (by kernel_rfl)) ?_
  refine .mv rfl ?_
  refine .ah 1 (us:=[.int .i64 0,.int .i64 0,uv 0,uv 0,.slice none 0 0]) (cs':=[.int .i64 0,.int .i64 0,uv 0,uv 0,.slice none 0 0]) rfl B9 rfl rfl rfl rfl aJ (aT rfl) rfl trivial ?_
  refine .as rfl (.nt cJ (.ret (.ae ?_)))
  refine .ghost 98 3 ?_
  refine .cO [.cell 4 45,.tmp 5] rfl (.cons (.cell yz rfl ax rfl rfl) (.cons (.tmp rfl) (.nil))) (fun w hw=>⟨_,_,?_,rfl,.of (hw.pk [2])⟩)
  refine ⟨4,Jl,.slice none 0 0,.inl ⟨rfl,hb,rfl⟩,cq,?_,rfl⟩
  rw [if_pos hb]
  rfl
 ·have hb:mX e=false:=by cases h:mX e with | false=>rfl | true=>rw [h] at bx;exact absurd bx (by decide)
  refine .skip ?_
  refine .ab (bg _ ?_)
  refine .sr fun _ cU=>?_
  refine .lit (xs:=[.const (.int .i64 (-1))]) bX uL rfl rfl rfl (by simp [Value.cells]) (by decide) (by decide) trivial rfl (fun lv=>?_)
  refine .v (.ak aM rfl ax rfl rfl) ?_
  refine .call UI rfl (fun w hw=>U8 e w s (h.at hw) (by omega)) trivial rfl ?_
  rintro lr o ⟨aaU,rfl⟩
  refine .gA 2 rfl bX uL rfl (by decide) rfl rfl rfl (cR.own 3 rfl) (CQ _ (fun _=>rfl) _) (by omega) (by omega) trivial rfl (fun av=>?_)
  refine .shape 2 rfl (fun Wq=>?_)
  refine .own' [box eu 24 3 [.int .i64 e.op,.int .i64 e.lt,s],box iD 45 5 [.int .i64 0,.int .i64 0,uv 0,uv 0,.slice none 0 0],row av 3 1 ((bK e).length+1) ((gp e).map (Value.int .i64))] (fun w hw=>by have h:=hw.pk [0,1,2];rw [Nat.add_comm 1] at h;exact h) ?_
  refine .as rfl (.nt cU ?_)
  refine .seq fun _ c7=>?_
  refine .sr fun _ dm=>?_
  refine .mv rfl (.v (.aZ bX rfl a8) (.v (.gtr rfl rfl) (.nt dm ?_)))
  refine .dH rfl (decide_eq_false (by omega)) ?_
  refine .skip ?_
  refine .ab (c7 _ ?_)
  refine .sr fun _ dD=>?_
  refine .mv rfl (.v (.aZ bX rfl a8) ?_)
  refine .kT lB JE rfl rfl rfl (by omega) (by omega) trivial rfl (fun iQ=>?_)
  refine .shape 3 rfl (fun B0=>?_)
  refine .v (.build (parts:=[(1,.tmp 32)]) (cs:=#[.int .i64 0,iQ]) rfl (by obtain ⟨_,_,_,rfl⟩:=B0;kernel_rfl)) ?_
  refine .alloc Z1 rfl rfl trivial rfl (fun lP=>?_)
  refine .ah 4 (us:=[.int .i64 0,iQ]) (cs':=[.int .i64 0,iQ]) rfl Yo rfl rfl rfl rfl aJ (aT rfl) rfl trivial ?_
  refine .nt dD ?_
  refine .sr fun _ bJ=>?_
  refine .v (.ak aM rfl ax rfl rfl) ?_
  refine .own' [bh [box lP 92 2 [.int .i64 ((0:Nat):Int),iQ],row iQ 42 1 ((bK e).length+1) (((List.replicate ((bK e).length+1) (0:cF))).map uv)],box eu 24 3 [.int .i64 e.op,.int .i64 e.lt,s],box iD 45 5 [.int .i64 0,.int .i64 0,uv 0,uv 0,.slice none 0 0],row av 3 1 ((bK e).length+1) ((gp e).map (Value.int .i64))] (fun w hw=>by have h:=HW.fU (l:=[_,_]) (own:=[_,_,_]) (hw.pk [4,3,0,1,2]);rw [List.map_replicate];exact h) ?_
  refine .aY 0 rfl Nd rfl (fun w Fs hw hh bI bc=>U3 e w (Fs 0) lP iQ ((bK e).length+1) 0 (List.replicate ((bK e).length+1) (0:cF)) (by simp) (by omega) B0 (hT.at hw) (fun hb=>by rcases bc 0 0 hb with h | h;exact absurd hT.lt (Nat.not_lt.2 h);exact h) (hh.at_ 0 _ rfl) s (h.yi bI bc 0) (by omega) Hl) trivial rfl ?_
  rintro r A o ⟨rfl,rfl,rfl⟩
  refine .mo rfl ?_
  refine .own' [box lP 92 2 [.int .i64 (((dJ e).2.1:Nat):Int),iQ],row iQ 42 1 ((bK e).length+1) (((dJ e).2.2).map uv),box eu 24 3 [.int .i64 e.op,.int .i64 e.lt,s],box iD 45 5 [.int .i64 0,.int .i64 0,uv 0,uv 0,.slice none 0 0],row av 3 1 ((bK e).length+1) ((gp e).map (Value.int .i64))] (fun w hw=>hw) ?_
  refine .alloc Eh rfl rfl trivial rfl (fun tn=>?_)
  refine .ah 5 (us:=[uv (dJ e).1.1,uv (dJ e).1.2.1,.bool (dJ e).1.2.2]) (cs':=[uv (dJ e).1.1,uv (dJ e).1.2.1,.bool (dJ e).1.2.2]) rfl tt rfl rfl rfl rfl aJ (aT rfl) rfl trivial ?_
  refine .nt bJ ?_
  refine .sr fun _ bP=>?_
  refine .v (.fieldAddr EA rfl) (.v (.aa tw rfl ax rfl) (.v (.fieldAddr oV rfl) (.v (.aa iY rfl ax rfl) ?_)))
  refine .v (.qi (k:=0) lB rfl rfl a8 (by decide) (by omega)) ?_
  refine .di 1 rfl zX rfl rfl rfl rfl (by omega) (cs':=((dU e).map uv)) ((by unfold dU;rw [List.map_set])) trivial ?_
  refine .nt bP ?_
  refine .sr fun _ ct=>?_
  refine .mv rfl (.mv rfl (.v (.aZ bX rfl a8) (.v (.fieldAddr nA rfl) (.v (.aa iY rfl ax rfl) ?_))))
  refine .v (.build (parts:=[(0,.tmp 41),(1,.tmp 43),(2,.const (.int .u64 1)),(3,.tmp 45)]) (cs:=#[.int .i64 2,.int .i64 ((((bK e).length+1):Nat):Int),uv 1,uv ((dJ e).1.2.1),.slice none 0 0]) rfl (by kernel_rfl)) ?_
  refine .alloc HD rfl rfl trivial rfl (fun wi=>?_)
  refine .ah 6 (us:=[.int .i64 2,.int .i64 ((((bK e).length+1):Nat):Int),uv 1,uv ((dJ e).1.2.1),.slice none 0 0]) (cs':=[.int .i64 2,.int .i64 ((((bK e).length+1):Nat):Int),uv 1,uv ((dJ e).1.2.1),.slice none 0 0]) rfl B9 rfl rfl rfl rfl aJ (aT rfl) rfl trivial ?_
  refine .nt ct ?_
  refine .D9 (X:=Unit) [(4,_),(7,_),(8,_),(10,_)] (fun u=>[]) (fun u=>[box lP 92 2 [.int .i64 (((dJ e).2.1:Nat):Int),iQ],row iQ 42 1 ((bK e).length+1) ((dU e).map uv),box eu 24 3 [.int .i64 e.op,.int .i64 e.lt,s],box iD 45 5 [.int .i64 0,.int .i64 0,uv 0,uv 0,.slice none 0 0],row av 3 1 ((bK e).length+1) ((gp e).map (Value.int .i64)),box tn 94 3 [uv (dJ e).1.1,uv (dJ e).1.2.1,.bool (dJ e).1.2.2],box wi 45 5 [.int .i64 2,.int .i64 ((((bK e).length+1):Nat):Int),uv 1,uv (tu e),.slice none 0 0]]) (fun u=>True) aU (fun _ cK=>?_) (fun u hg=>?_)
  ·refine .sr fun _ cW=>?_
   refine .v (.fieldAddr lX rfl) (.v (.aa vk rfl ax rfl) (.nt cW ?_))
   refine .cond rfl (fun cZ=>?_) (fun cZ=>?_)
   ·try simp only [bs] at cZ
    have eT:tu e=(dJ e).1.2.1 ||| 1:=if_pos cZ
    refine .region ?_
    refine .v (.fieldAddr tL rfl) (.v (.aa iY rfl ax rfl) (.v (.IZ (b:=1) rfl rfl) (.v (.fieldAddr tL rfl) ?_)))
    refine .ah 6 (us:=[uv ((dJ e).1.2.1 ||| 1)]) (cs':=[.int .i64 2,.int .i64 ((((bK e).length+1):Nat):Int),uv 1,uv ((dJ e).1.2.1 ||| 1),.slice none 0 0]) rfl zX rfl rfl rfl rfl aJ (aT rfl) rfl trivial ?_
    refine .nil ?_
    refine .ab (cK _ _ (()) trivial (aU) (fun w hw=>by rw [eT];exact hw))
   ·try simp only [bs] at cZ
    have eT:tu e=(dJ e).1.2.1:=if_neg (by rw [cZ];decide)
    refine .skip ?_
    refine .ab (cK _ _ (()) trivial (aU) (fun w hw=>by rw [eT];exact hw))
  ·skip
   refine .seq fun _ c8=>?_
   refine .sr fun _ dw=>?_
   refine .v (.fieldAddr EA rfl) (.v (.aa tw rfl ax rfl) (.v (.aZ lB rfl a8) (.mv rfl (.nt dw (.block ?_)))))
   refine .bE (X:=Nat × Value) [(4,_),(7,_),(10,_),(54,_),(55,_)] (fun x=>[(56,.int .i64 (x.1:Int))]) (fun x=>[box iD 45 5 [.int .i64 0,.int .i64 0,uv 0,uv 0,.slice none 0 0],row av 3 1 ((bK e).length+1) ((gp e).map (Value.int .i64)),box lP 92 2 [.int .i64 (((dJ e).2.1:Nat):Int),iQ],row iQ 42 1 ((bK e).length+1) ((dU e).map uv),box tn 94 3 [uv (dJ e).1.1,uv (dJ e).1.2.1,.bool (dJ e).1.2.2],box wi 45 5 [.int .i64 2,.int .i64 ((((bK e).length+1):Nat):Int),uv 1,uv (tu e),x.2],row x.2 98 3 (BR (gp e) (dU e) x.1).length (rE (BR (gp e) (dU e) x.1))]) (fun x=>x.1≤((bK e).length+1)∧aB x.2) (fun x=>((bK e).length+1) - x.1) ((0,.slice none 0 0)) aU ?_ ?_ ?_ ?_
   ·exact ⟨Nat.zero_le _,cq⟩
   ·exact aU
   ·exact fun w hw=>by have h:=hw.ghost 98 3;exact h.pk [3,4,0,1,5,6,7]
   ·intro x aV _ dE
    refine .sr fun _ dR=>?_
    refine .v (.lss rfl rfl) (.nt dR ?_)
    refine .seq fun _ dO=>?_
    refine .aA rfl (fun iz=>?_) (fun iz=>?_)
    ·have Xu:x.1<((bK e).length+1):=by omega
     have Fz:=mD ((dU e).getD x.1 0)
     have hel:=A1 (gp e) (dU e) x.1
     refine .skip ?_
     refine .ab (dO _ ?_)
     refine .seq fun _ eJ=>?_
     refine .block ?_
     refine .sr fun _ eY=>?_
     refine .mv rfl (.v (.iN lB rfl rfl) ?_)
     refine .v (.rS iY rfl a8 (by omega)) ?_
     refine .as rfl (.as rfl (.nt eY ?_))
     refine .sr fun _ eI=>?_
     refine .mv rfl ?_
     refine .call Rw rfl (fun w hw=>tU w ((dU e).getD x.1 0) (hT.at hw)) trivial rfl ?_
     rintro mv o ⟨Ue,rfl⟩
     refine .v (.aZ bX rfl a8) (.mv rfl (.nt eI (.block ?_)))
     refine .bE (X:=Nat × Value) [(4,_),(7,_),(10,_),(11,_),(54,_),(55,_),(56,_),(62,_),(63,_)] (fun y=>[(64,.int .i64 (y.1:Int))]) (fun y=>[box iD 45 5 [.int .i64 0,.int .i64 0,uv 0,uv 0,.slice none 0 0],row av 3 1 ((bK e).length+1) ((gp e).map (Value.int .i64)),box lP 92 2 [.int .i64 (((dJ e).2.1:Nat):Int),iQ],row iQ 42 1 ((bK e).length+1) ((dU e).map uv),box tn 94 3 [uv (dJ e).1.1,uv (dJ e).1.2.1,.bool (dJ e).1.2.2],box wi 45 5 [.int .i64 2,.int .i64 ((((bK e).length+1):Nat):Int),uv 1,uv (tu e),y.2],row y.2 98 3 (BR (gp e) (dU e) x.1++BS (gp e) (dU e) x.1 (y.1)).length (rE (BR (gp e) (dU e) x.1++BS (gp e) (dU e) x.1 (y.1))),row mv 3 1 (c5 ((dU e).getD x.1 0)).length ((mI (c5 ((dU e).getD x.1 0))).map (Value.int .i64))]) (fun y=>y.1≤(c5 ((dU e).getD x.1 0)).length∧aB y.2) (fun y=>(c5 ((dU e).getD x.1 0)).length - y.1) ((0,x.2)) aU ?_ ?_ ?_ ?_
     ·exact ⟨Nat.zero_le _,aV.2⟩
     ·exact aU
     ·exact fun w hw=>by rw [show BS (gp e) (dU e) x.1 0=[] from rfl,List.append_nil];exact hw
     ·intro y c6 _ fH
      have sy:=c6.2
      refine .sr fun _ gq=>?_
      refine .v (.lss rfl rfl) (.nt gq ?_)
      refine .seq fun _ iT=>?_
      refine .aA rfl (fun gn=>?_) (fun gn=>?_)
      ·have hj:y.1<(c5 ((dU e).getD x.1 0)).length:=by omega
       have Ti:=pD Hl hb vY Xu (jq.1 (aX (d:=0) hj))
       have abb:=GF (gp e) (dU e) x.1 y.1
       have aba:(BR (gp e) (dU e) x.1++BS (gp e) (dU e) x.1 (y.1)).length≤100000:=by rw [List.length_append];omega
       refine .skip ?_
       refine .ab (iT _ ?_)
       refine .seq fun _ iZ=>?_
       refine .block ?_
       refine .sr fun _ iS=>?_
       refine .v (.iN bX rfl rfl) ?_
       refine .val (.int .i64 ((((c5 ((dU e).getD x.1 0)).getD y.1 0):Nat):Int)) (.iW (.ff cQ rfl a8 (by rw [Et];omega)) (congrArg (Value.int .i64) (Eu (by omega)))) trivial rfl ?_
       refine .as rfl (.nt iS ?_)
       refine .oM (X:=Value) [(4,_),(7,_),(10,_),(11,_),(54,_),(55,_),(56,_),(62,_),(63,_),(64,_)] (fun z=>[]) (fun z=>[box iD 45 5 [.int .i64 0,.int .i64 0,uv 0,uv 0,.slice none 0 0],row av 3 1 ((bK e).length+1) ((gp e).map (Value.int .i64)),box lP 92 2 [.int .i64 (((dJ e).2.1:Nat):Int),iQ],row iQ 42 1 ((bK e).length+1) ((dU e).map uv),box tn 94 3 [uv (dJ e).1.1,uv (dJ e).1.2.1,.bool (dJ e).1.2.2],box wi 45 5 [.int .i64 2,.int .i64 ((((bK e).length+1):Nat):Int),uv 1,uv (tu e),z],row z 98 3 (BR (gp e) (dU e) x.1++BS (gp e) (dU e) x.1 (y.1+1)).length (rE (BR (gp e) (dU e) x.1++BS (gp e) (dU e) x.1 (y.1+1))),row mv 3 1 (c5 ((dU e).getD x.1 0)).length ((mI (c5 ((dU e).getD x.1 0))).map (Value.int .i64))]) (fun z=>aB z) aU (fun _ hJ=>?_) (fun z hg=>?_)
       ·try (conv=>enter [2,2];simp only [cE])
        refine .jG _ 12 (fun _ hw=>hw.pk [1,5]) mixed ?_
        refine .FS (fun _ hw=>hw.pk [1,5]) 0 12 13 1 rfl (.fieldAddr lY rfl) trivial ?_
        refine .FS (fun _ hw=>hw.pk [1,5]) 1 11 13 3 rfl (.aa Cd rfl ax rfl) trivial ?_
        refine .FS (fun _ hw=>hw.pk [1,5]) 2 10 13 7 rfl (.move rfl) trivial ?_
        refine .FS (fun _ hw=>hw.pk [1,5]) 3 9 13 15 rfl (.move rfl) trivial ?_
        refine .FS (fun _ hw=>hw.pk [1,5]) 4 8 13 31 rfl (.move rfl) trivial ?_
        refine .FS (fun _ hw=>hw.pk [1,5]) 5 7 13 63 rfl (.iN bX rfl rfl) trivial ?_
        refine .FS (fun _ hw=>hw.pk [1,5]) 6 6 13 127 rfl (.ff cQ rfl a8 (by omega)) trivial ?_
        refine .FS (fun _ hw=>hw.pk [1,5]) 7 5 13 255 rfl (.move rfl) trivial ?_
        refine .FS (fun _ hw=>hw.pk [1,5]) 8 4 13 511 rfl (.build (parts:=[(0,.tmp 70),(1,.tmp 74),(2,.tmp 75)]) (cs:=#[.int .i64 (x.1:Int),.int .i64 ((gp e).getD ((c5 ((dU e).getD x.1 0)).getD y.1 0) 0),.int .i64 ((((c5 ((dU e).getD x.1 0)).getD y.1 0):Nat):Int)]) rfl (by kernel_rfl)) trivial ?_
        refine .O 9 3 13 1023 rfl ?_
        refine .lit (xs:=[.tmp 76]) yt JC rfl rfl rfl (by simp [Value.cells]) (by decide) (by decide) trivial rfl (fun lw=>?_)
        refine .nil ?_
        try (conv=>enter [2,2];simp only [cE])
        refine ay.bo (fun _ hw=>hw.pk [1,5]) ?_
        refine .O 10 2 13 2047 rfl ?_
        refine .gA 6 rfl yt JC rfl (by decide) rfl rfl rfl a8 (by intro c hc;simp [Value.cells] at hc;rcases hc with rfl | rfl | rfl <;> rfl) (by omega) (by omega) trivial rfl (fun va=>?_)
        refine .shape 6 rfl (fun Mn=>?_)
        refine .nil ?_
        try (conv=>enter [2,2];simp only [cE])
        refine ay.bo (fun _ hw=>hw.pk [1,5]) ?_
        refine .FS (fun _ hw=>hw.pk [1,5]) 11 1 13 4095 rfl (.fieldAddr lY rfl) trivial ?_
        refine .O 12 0 13 8191 rfl ?_
        refine .ah 5 (us:=[va]) (cs':=[.int .i64 2,.int .i64 ((((bK e).length+1):Nat):Int),uv 1,uv (tu e),va]) rfl Ua rfl rfl (by rw [aB.cells (by assumption)]) rfl aJ (aT rfl) rfl trivial ?_
        refine .nil ?_
        try (conv=>enter [2,2];simp only [cE])
        refine ay.ir 13 cx rfl cx ?_
        refine .nil ?_
        refine .fu ?_
        exact hJ _ _ (va) Mn (aU) (fun w hw=>by have e:BR (gp e) (dU e) x.1++BS (gp e) (dU e) x.1 (y.1+1)=(BR (gp e) (dU e) x.1++BS (gp e) (dU e) x.1 (y.1))++[((x.1:Int),(gp e).getD ((c5 ((dU e).getD x.1 0)).getD y.1 0) 0,((((c5 ((dU e).getD x.1 0)).getD y.1 0):Nat):Int))]:=(by rw [Lu hj,List.append_assoc]);rw [e,Df,List.length_append];have h:=hw.pk [0,1,2,3,4,5,6,7];exact h)
       ·have sz:=hg
        refine .ag ?_
        refine .ab (iZ _ ?_)
        refine .region ?_
        refine .v (.add rfl rfl (by omega)) ?_
        refine .mv rfl (.nil ?_)
        refine .ab (fH _ _ ((y.1+1,z)) ⟨by dsimp only;omega,hg⟩ (by dsimp only;omega) (aU) (fun w hw=>hw))
      ·have hj:y.1=(c5 ((dU e).getD x.1 0)).length:=by omega
       refine .exit (.ai (.ai (.ar (.ag ?_))))
       refine .ab (eJ _ ?_)
       refine .region ?_
       refine .v (.add rfl rfl (by omega)) ?_
       refine .mv rfl (.nil ?_)
       refine .ab (dE _ _ ((x.1+1,y.2)) ⟨by dsimp only;omega,c6.2⟩ (by dsimp only;omega) (aU) (fun w hw=>by rw [hj] at hw;exact hw.pk [0,1,2,3,4,5,6]))
    ·have Xu:x.1=((bK e).length+1):=by omega
     have sxx:=aV.2
     refine .exit (.ai (.ai (.ar ?_)))
     refine .ab (c8 _ ?_)
     refine .sr fun _ jy=>?_
     refine .v (.fieldAddr lY rfl) (.v (.aa Cd rfl ax rfl) ?_)
     refine .own' [box iD 45 5 [.int .i64 0,.int .i64 0,uv 0,uv 0,.slice none 0 0],row av 3 1 ((bK e).length+1) ((gp e).map (Value.int .i64)),box lP 92 2 [.int .i64 (((dJ e).2.1:Nat):Int),iQ],row iQ 42 1 ((bK e).length+1) ((dU e).map uv),box tn 94 3 [uv (dJ e).1.1,uv (dJ e).1.2.1,.bool (dJ e).1.2.2],box wi 45 5 [.int .i64 2,.int .i64 ((((bK e).length+1):Nat):Int),uv 1,uv (tu e),x.2],row x.2 98 3 (yu e).length (rE (yu e))] (fun w hw=>by rw [Xu] at hw;exact hw) ?_
     refine .aY 6 rfl UH rfl (fun w Fs hw hh bI bc=>Gu w (Fs 6) x.2 (yu e) (by have:=A1 (gp e) (dU e) ((bK e).length+1);show (BR _ _ _).length<_;omega) (hh.at_ 6 _ rfl)) trivial rfl ?_
     rintro r A o ⟨WZ,rfl,rfl,yO,uG⟩
     refine .nt jy ?_
     refine .sr fun _ kf=>?_
     refine .v (.ak yz rfl ax rfl rfl) ?_
     refine .ah 0 (us:=[.int .i64 2,.int .i64 ((((bK e).length+1):Nat):Int),uv 1,uv (tu e),x.2]) (cs':=[.int .i64 2,.int .i64 ((((bK e).length+1):Nat):Int),uv 1,uv (tu e),x.2]) rfl B9 rfl rfl rfl rfl aJ (aT rfl) rfl trivial ?_
     refine .as rfl (.nt kf (.ret ?_))
     refine .cO [.cell 4 45,.tmp 5] rfl (.cons (.cell yz rfl ax rfl rfl) (.cons (.tmp rfl) (.nil))) (fun w hw=>⟨_,_,?_,rfl,.of (hw.pk [6])⟩)
     exact ⟨0,Mr e WZ,x.2,.inr ⟨rfl,hb,WZ,rfl,yO,uG⟩,aV.2,rfl,rfl⟩
end Go.Proofs.YtbibnpdnmmgacaaGreatDoor
namespace Go.Proofs.YtbibnpdnmmgacaaGreatDoor
open Go.Sx Go.RowKit
theorem Lf (w:World) (f:FuncId) (us cs:List Value) (zT:aj Tryz.prog f) (p:Ex→Bool) (s:Value) (ks:List Ex) (ss:List Value) (hl:ss.length=ks.length) (mW:∀ i,i<ks.length→aB (ss.getD i undef)) (hr:Rd (fun b=>¬ (fun _=>False) b) w s 3 ks.length (dc ks ss)) (hf:∀ w',bj (fun _=>False) w w'→∀ i,i<ks.length→aK Tryz.prog f (us++[.agg #[.int .i64 (ks.getD i default).op,.int .i64 (ks.getD i default).lt,ss.getD i undef]]++cs) w' (fun r o=>r = .bool (p (ks.getD i default))∧o=[])):aK Tryz.prog 78 [s,.func (.func f) us.toArray cs.toArray] w (fun r o=>r = .int .i64 (qj p ks)∧o=[]):=by
 have hm:=hr.le
 refine aC Tryz.func78 rfl (aT rfl) ?_
 refine .sr fun _ bl=>?_
 refine .as rfl (.nt bl ?_)
 refine .seq fun _ bg=>?_
 refine .sr fun _ bW=>?_
 refine .mv rfl (.v (.aZ aR rfl a8) (.mv rfl (.nt bW (.block ?_))))
 refine .bE (X:=Nat) [(0,_),(1,_),(7,_)] (fun k=>[(8,.int .i64 (k:Int))]) (fun k=>[]) (fun k=>k≤ks.length∧∀ i,i<k→p (ks.getD i default)=false) (fun k=>ks.length - k) (0) aU ?_ ?_ ?_ ?_
 ·exact ⟨Nat.zero_le _,fun i hi=>(by omega)⟩
 ·exact aU
 ·exact fun w hw=>hw
 ·intro k aV _ cr
  refine .sr fun _ cJ=>?_
  refine .v (.lss rfl rfl) (.nt cJ ?_)
  refine .seq fun _ cU=>?_
  refine .aA rfl (fun bx=>?_) (fun bx=>?_)
  ·refine .skip ?_
   refine .ab (cU _ ?_)
   refine .seq fun _ c7=>?_
   refine .block ?_
   refine .sr fun _ dm=>?_
   refine .mv rfl (.as rfl (.nt dm ?_))
   refine .sr fun _ dD=>?_
   refine .mv rfl (.mv rfl (.mv rfl (.v (.iN aR rfl rfl) ?_)))
   refine .v (.da aM rfl a8 (by assumption) rfl (by omega)) ?_
   refine .oQ (us:=us) (cs:=cs) zT rfl rfl (fun w hw=>hf w hw.frame k (by omega)) trivial rfl ?_
   rintro r o ⟨rfl,rfl⟩
   refine .nt dD ?_
   refine .cond rfl (fun cB=>?_) (fun cB=>?_)
   ·try simp only [bs] at cB
    refine .sr fun _ bJ=>?_
    refine .mv rfl (.as rfl (.nt bJ (.ret (.al (.ae (.ae (.al (.ae ?_))))))))
    refine .aG rfl rfl (fun w hw=>⟨_,_,?_,rfl,.of (hw.pk [])⟩)
    refine ⟨congrArg (Value.int .i64) ?_,rfl⟩
    exact (zt (by omega) aV.2 (by simpa using cB)).symm
   ·try simp only [bs] at cB
    refine .skip (.ag ?_)
    refine .ab (c7 _ ?_)
    refine .region ?_
    refine .v (.add rfl rfl (by omega)) ?_
    refine .mv rfl (.nil ?_)
    refine .ab (cr _ _ (k+1) ⟨by omega,fun i hi=>by rcases Nat.lt_or_ge i k with uK | uK;exact aV.2 i uK;obtain rfl:i=k:=(by omega);simpa using cB⟩ (by omega) (aU) (fun w hw=>hw))
  ·refine .exit (.ai (.ai (.ar ?_)))
   refine .ab (bg _ ?_)
   refine .sr fun _ bP=>?_
   refine .as rfl (.nt bP (.ret ?_))
   refine .aG rfl rfl (fun w hw=>⟨_,_,?_,rfl,.of (hw.pk [])⟩)
   refine ⟨congrArg (Value.int .i64) ?_,rfl⟩
   exact (zu fun i hi=>aV.2 i (by omega)).symm
theorem R9 (w:World) (db:Nat) (a b:Ex) (s t:Value) (hb:qL w db [.int .i64 b.op,.int .i64 b.lt,t]) (h:dy (bD (fun _=>False) w) s a.kids) (h2:dy (bD (fun _=>False) w) t b.kids):aK Tryz.prog 79 [.agg #[.int .i64 a.op,.int .i64 a.lt,s],.pointer (some ⟨db,0,none⟩)] w (fun r o=>r = .bool (qe a b)∧o=[]):=by
 have hs:=h.sl
 have ht:=h2.sl
 have WR:=iF.arg (C:=⟨Tryz.prog,Tryz.f79.ntmps,w,fun _=>False⟩) (own:=[]) hb
 refine aC Tryz.func79 rfl (aT rfl) ?_
 refine .sr fun _ bl=>?_
 refine .cS (E:=24) (cs:=[.int .i64 a.op,.int .i64 a.lt,s]) rfl rfl rfl trivial rfl (fun eu=>?_)
 refine .as rfl (.nt bl ?_)
 refine .sr fun _ bg=>?_
 refine .v (.ak aM rfl ax rfl rfl) (.v (.ak aM rfl ax rfl rfl) ?_)
 refine .call JF rfl (fun w hw=>Ak a b w s t (h.at hw) (h2.at hw)) trivial rfl ?_
 rintro r o ⟨rfl,rfl⟩
 refine .v (.eql rfl rfl) (.as rfl (.nt bg (.ret ?_)))
 refine .aG rfl rfl (fun w hw=>⟨_,_,?_,rfl,.of (hw.pk [])⟩)
 exact ⟨rfl,rfl⟩
set_option maxHeartbeats 4000000 in
theorem H2 (w:World) (e:Ex) (s:Value) (h:dy (bD (fun _=>False) w) s e.kids) (hv:cg e 2=0) (hz:dt e≤10) (hT:vp w):aK Tryz.prog 30 [.agg #[.int .i64 e.op,.int .i64 e.lt,s],.int .i64 2] w (fun r o=>∃ (er:Int) (n:kc) (vE:Value),((er=4∧mX e=true∧n=Jl)∨(er=0∧mX e=false∧VN n∧n.L=2∧∀ w,yB n w↔LE e w))∧aB vE∧r = .tuple #[.agg #[.int .i64 n.L,.int .i64 n.S,uv n.st,uv n.fi,vE],.int .i64 er]∧o=[row vE 98 3 n.es.length (rE n.es)]):=by
 have sk:=h.sl
 have hB:=KI w
 refine aC Tryz.func30 rfl (aT rfl) ?_
 refine .pS (mq w) ?_
 refine .It 0 rfl h ?_
 refine .sr fun _ bl=>?_
 refine .cS (E:=24) (cs:=[.int .i64 e.op,.int .i64 e.lt,s]) rfl rfl rfl trivial rfl (fun eu=>?_)
 refine .alloc HD rfl rfl trivial rfl (fun iD=>?_)
 refine .as rfl (.nt bl ?_)
 refine .seq fun _ bg=>?_
 refine .sr fun _ bW=>?_
 refine .v (.ak aM rfl ax rfl rfl) (.mv rfl ?_)
 refine .call UJ rfl (fun w hw=>Gn w e s 2 (h.at hw)) trivial rfl ?_
 rintro r o ⟨rfl,rfl⟩
 rw [if_pos hv]
 refine .as rfl (.nt bW ?_)
 refine .sr fun _ cr=>?_
 refine .mv rfl (.v (.neq rfl rfl) (.nt cr ?_))
 refine .df rfl (fun bx=>?_) (fun bx=>?_)
 ·have hb:mX e=true:=by cases h:mX e with | true=>rfl | false=>rw [h] at bx;exact absurd rfl bx
  refine .sr fun _ cJ=>?_
  refine .v (.build (parts:=[]) (cs:=#[.int .i64 0,.int .i64 0,uv 0,uv 0,.slice none 0 0]) rfl (by kernel_rfl)) ?_
  refine .mv rfl ?_
  refine .ah 2 (us:=[.int .i64 0,.int .i64 0,uv 0,uv 0,.slice none 0 0]) (cs':=[.int .i64 0,.int .i64 0,uv 0,uv 0,.slice none 0 0]) rfl B9 rfl rfl rfl rfl aJ (aT rfl) rfl trivial ?_
  refine .as rfl (.nt cJ (.ret (.ae ?_)))
  refine .ghost 98 3 ?_
  refine .cO [.cell 4 45,.tmp 5] rfl (.cons (.cell yz rfl ax rfl rfl) (.cons (.tmp rfl) (.nil))) (fun w hw=>⟨_,_,?_,rfl,.of (hw.pk [3])⟩)
  refine ⟨4,Jl,.slice none 0 0,.inl ⟨rfl,hb,rfl⟩,cq,?_,rfl⟩
  rw [if_pos hb]
  rfl
 ·have hb:mX e=false:=by cases h:mX e with | false=>rfl | true=>rw [h] at bx;exact absurd bx (by decide)
  obtain ⟨j,hj,hn,hwj,TK,Pb⟩:=Oh hv hz hb
  refine .skip ?_
  refine .ab (bg _ ?_)
  refine .sr fun _ cU=>?_
  refine .v (.ak aM rfl ax rfl rfl) ?_
  refine .aY 0 rfl UL rfl (fun w Fs hw hh bI bc=>Kj e w (Fs 0) _ _ (hB.later bI bc 0) (hh.at_ 0 _ rfl) s List.mem_cons_self j hj) trivial rfl ?_
  rintro r A o ⟨sr,l2,rfl,qc,rfl,dX,gG,rfl⟩
  refine .lit (xs:=[.tmp 22]) aR cC rfl rfl rfl (by simp [Value.cells]) (by decide) (by decide) trivial rfl (fun lv=>?_)
  refine .shape 3 rfl (fun BP=>?_)
  refine .as rfl (.nt cU ?_)
  refine .sr fun _ c7=>?_
  refine .mv rfl ?_
  refine .v (.build (parts:=[(0,.tmp 24),(2,.const (.int .u64 1))]) (cs:=#[.int .i64 2,.int .i64 0,uv 1,uv 0,.slice none 0 0]) rfl (by kernel_rfl)) ?_
  refine .alloc HD rfl rfl trivial rfl (fun lP=>?_)
  refine .ah 4 (us:=[.int .i64 2,.int .i64 0,uv 1,uv 0,.slice none 0 0]) (cs':=[.int .i64 2,.int .i64 0,uv 1,uv 0,.slice none 0 0]) rfl B9 rfl rfl rfl rfl aJ (aT rfl) rfl trivial ?_
  refine .nt c7 ?_
  refine .seq fun _ dm=>?_
  refine .sr fun _ dD=>?_
  refine .as rfl (.nt dD (.block ?_))
  refine .bE (X:=Nat × cF × HK) [(1,_),(4,_),(8,_)] (fun x=>[(7,x.2.2.v),(9,.int .i64 (x.1:Int))]) (fun x=>[aI (mq w) x.2.2.l,box eu 24 3 [.int .i64 e.op,.int .i64 e.lt,s],box iD 45 5 [.int .i64 0,.int .i64 0,uv 0,uv 0,.slice none 0 0],row x.2.2.v 24 3 x.2.2.bR.length (dc x.2.2.bR x.2.2.ss),box lP 45 5 [.int .i64 2,.int .i64 0,uv 1,uv x.2.1,x.2.2.ve],row x.2.2.ve 98 3 (x.2.2.T.map (yr x.2.2.bR)).length (rE (x.2.2.T.map (yr x.2.2.bR)))]) (fun x=>yk j x.2.2 x.1 0 0∧mm x.2.2.bR x.2.1 x.1) (fun x=>22 - x.1) ((0,0,⟨lv,[sr],[j],[],.slice none 0 0,l2⟩)) aU ?_ ?_ ?_ ?_
  ·exact ⟨yk.start gG qc BP,mm.start _⟩
  ·exact aU
  ·exact fun w hw=>by have h:=hw.ghost 98 3;exact h
  ·intro x aV _ bJ
   have sx:=aV.1.sv
   have aaM:=aV.1.p.len
   refine .seq fun _ bP=>?_
   refine .sr fun _ ct=>?_
   refine .mv rfl (.mv rfl ?_)
   refine .v (.aZ aR rfl (by exact a8)) ?_
   refine .v (.lss rfl rfl) (.nt ct ?_)
   refine .aA rfl (fun cB=>?_) (fun cB=>?_)
   ·have oA:x.1<x.2.2.bR.length:=by omega
    refine .skip ?_
    refine .ab (bP _ ?_)
    refine .seq fun _ cK=>?_
    refine .block ?_
    refine .seq fun _ cW=>?_
    refine .sr fun _ c8=>?_
    refine .mv rfl (.mv rfl (.nt c8 (.block ?_)))
    refine .bE (X:=Nat × HK) [(1,_),(4,_),(8,_),(9,_),(32,_)] (fun y=>[(7,y.2.v),(33,.int .i64 (y.1:Int))]) (fun y=>[aI (mq w) y.2.l,box eu 24 3 [.int .i64 e.op,.int .i64 e.lt,s],box iD 45 5 [.int .i64 0,.int .i64 0,uv 0,uv 0,.slice none 0 0],row y.2.v 24 3 y.2.bR.length (dc y.2.bR y.2.ss),box lP 45 5 [.int .i64 2,.int .i64 0,uv 1,uv x.2.1,y.2.ve],row y.2.ve 98 3 (y.2.T.map (yr y.2.bR)).length (rE (y.2.T.map (yr y.2.bR)))]) (fun y=>yk j y.2 x.1 y.1 0∧x.1<y.2.bR.length∧y.1≤2∧mm y.2.bR x.2.1 x.1) (fun y=>2 - y.1) ((0,x.2.2)) aU ?_ ?_ ?_ ?_
    ·exact ⟨aV.1,oA,Nat.zero_le _,aV.2⟩
    ·exact aU
    ·exact fun w hw=>hw
    ·intro y c6 _ dw
     have sy:=c6.1.sv
     refine .sr fun _ dE=>?_
     refine .v (.lss rfl rfl) (.nt dE ?_)
     refine .seq fun _ dR=>?_
     refine .aA rfl (fun cZ=>?_) (fun cZ=>?_)
     ·have Xq:y.1<2:=by omega
      have sky:=c6.1.g.s x.1 (by rw [c6.1.sl];exact c6.2.1)
      have XR:=c6.1.g.d x.1 (by rw [c6.1.sl];exact c6.2.1)
      have hzy:=c6.1.p.sz TK c6.2.1
      have hwy:=pA (by decide:(2:Int)≤6) _ (c6.1.p.wf hwj TK c6.2.1)
      refine .skip ?_
      refine .ab (dR _ ?_)
      refine .seq fun _ dO=>?_
      refine .block ?_
      refine .sr fun _ eJ=>?_
      refine .mv rfl (.as rfl (.nt eJ ?_))
      refine .sr fun _ eY=>?_
      refine .mv rfl (.mv rfl ?_)
      refine .v (.iN aR rfl rfl (hr:=(by exact a8))) ?_
      refine .v (.da aM rfl (by exact a8) c6.1.sl rfl (by omega)) ?_
      refine .mv rfl ?_
      refine .aY 0 rfl JG rfl (fun w Fs hw hh bI bc=>YA (y.1:Int) _ w (Fs 0) _ _ (hB.later bI bc 0) (hh.at_ 0 _ rfl) _ XR (by omega) hwy) trivial rfl ?_
      rintro r A o ⟨Ml,l3,Wm,rfl,pz,IS,tx,rfl⟩
      have O6:=lI (a:=(y.1:Int)) (y.2.bR.getD x.1 default)
      refine .aY 6 rfl aak rfl (fun w Fs hw hh bI bc=>K9 w (Fs 6) r _ Ml tx (by omega) (hh.at_ 6 _ rfl) (fun i hi=>hh.Tg hB 0 6 (by decide) rfl (IS.d i (by omega)) bI bc)) trivial rfl ?_
      rintro lw A o ⟨ts,slw,rfl,rfl,Xj⟩
      have Ri:=IS.sub tx Xj
      have WB:=Xj.len
      have MS:∃ ds,Mp (im (y.1:Int) (y.2.bR.getD x.1 default))=ds:=⟨_,rfl⟩
      obtain ⟨ds,MS⟩:=MS
      rw [MS] at Ri WB Xj ⊢
      have TY:ds.length≤401:=by rw [← MS];exact c6.1.p.rl TK c6.2.1 y.1
      refine .v (.aZ aR rfl (by exact a8)) ?_
      refine .mv rfl (.nt eY (.block ?_))
      refine .bE (X:=Nat × HK) [(1,_),(4,_),(8,_),(9,_),(10,_),(32,_),(33,_),(42,_),(43,_)] (fun z=>[(7,z.2.v),(44,.int .i64 (z.1:Int))]) (fun z=>[aI (mq w) z.2.l,box eu 24 3 [.int .i64 e.op,.int .i64 e.lt,s],box iD 45 5 [.int .i64 0,.int .i64 0,uv 0,uv 0,.slice none 0 0],row z.2.v 24 3 z.2.bR.length (dc z.2.bR z.2.ss),box lP 45 5 [.int .i64 2,.int .i64 0,uv 1,uv x.2.1,z.2.ve],row z.2.ve 98 3 (z.2.T.map (yr z.2.bR)).length (rE (z.2.T.map (yr z.2.bR))),row lw 24 3 ds.length (dc ds ts)]) (fun z=>yk j z.2 x.1 y.1 z.1∧z.1≤ds.length∧x.1<z.2.bR.length∧ds=BZ y.1 (z.2.bR.getD x.1 default)∧kJ z.2.l ds ts∧mm z.2.bR x.2.1 x.1) (fun z=>ds.length - z.1) ((0,{ y.2 with l:=l3 })) aU ?_ ?_ ?_ ?_
      ·exact ⟨c6.1.later pz,Nat.zero_le _,c6.2.1,MS.symm,Ri,c6.2.2.2⟩
      ·exact aU
      ·exact fun w hw=>by exact hw.pk [0,1,2,3,4,5,6]
      ·intro z lO _ eI
       have szv:=lO.1.sv
       refine .sr fun _ fH=>?_
       refine .v (.lss rfl rfl) (.nt fH ?_)
       refine .seq fun _ gq=>?_
       refine .aA rfl (fun iz=>?_) (fun iz=>?_)
       ·have IN:z.1<ds.length:=by omega
        have sd:=Ri.s z.1 (by omega)
        have dd:=lO.2.2.2.2.1.d z.1 (by omega)
        have aaK:=lO.1.p.len
        have hzT:=lO.1.p.ln
        have Um:=lO.1.sl
        refine .skip ?_
        refine .ab (gq _ ?_)
        refine .seq fun _ iT=>?_
        refine .block ?_
        refine .sr fun _ iZ=>?_
        refine .v (.iN aR rfl rfl (hr:=(by exact a8))) ?_
        refine .v (.da aM rfl (by exact a8) (by omega) rfl (by omega)) ?_
        refine .alloc cC rfl rfl trivial rfl (fun qk=>?_)
        refine .ah 7 (us:=[.int .i64 (ds.getD z.1 default).op,.int .i64 (ds.getD z.1 default).lt,ts.getD z.1 undef]) (cs':=[.int .i64 (ds.getD z.1 default).op,.int .i64 (ds.getD z.1 default).lt,ts.getD z.1 undef]) rfl cy rfl rfl rfl rfl aJ (aT rfl) rfl trivial ?_
        refine .nt iZ ?_
        refine .sr fun _ iS=>?_
        refine .mv rfl (.v (.makeFunc (first:=[]) (captured:=[.tmp 12]) rfl rfl) ?_)
        refine .call Rv rfl (fun w hw=>Lf w 79 [] [.pointer (some ⟨qk,0,none⟩)] aaj (fun s=>qe s (ds.getD z.1 default)) z.2.v z.2.bR z.2.ss Um (fun i hi=>lO.1.g.s i (by omega)) ((cR.own 3 rfl w hw).mono fun b _ _=>⟨id,rfl⟩) (fun w' bI i hi=>R9 w' qk _ _ _ _ ((qL.own 7 hw rfl).fr bI) ((hw.qh hB 0 rfl (lO.1.g.d i (by omega))).fr bI) ((hw.qh hB 0 rfl dd).fr bI))) trivial rfl ?_
        rintro r o ⟨rfl,rfl⟩
        refine .as rfl (.nt iS ?_)
        refine .D9 (X:=HK) [(1,_),(4,_),(8,_),(9,_),(10,_),(32,_),(33,_),(42,_),(43,_),(44,_)] (fun u=>[(7,u.v),(13,.int .i64 ((DZ u.bR (ds.getD z.1 default):Nat):Int))]) (fun u=>[aI (mq w) u.l,box eu 24 3 [.int .i64 e.op,.int .i64 e.lt,s],box iD 45 5 [.int .i64 0,.int .i64 0,uv 0,uv 0,.slice none 0 0],row u.v 24 3 u.bR.length (dc u.bR u.ss),box lP 45 5 [.int .i64 2,.int .i64 0,uv 1,uv x.2.1,u.ve],row u.ve 98 3 (u.T.map (yr u.bR)).length (rE (u.T.map (yr u.bR))),row lw 24 3 ds.length (dc ds ts)]) (fun u=>yk j u x.1 y.1 z.1∧(ds.getD z.1 default)∈u.bR∧x.1<u.bR.length∧ds=BZ y.1 (u.bR.getD x.1 default)∧kJ u.l ds ts∧mm u.bR x.2.1 x.1) aU (fun _ jy=>?_) (fun u hg=>?_)
        ·refine .sr fun _ kf=>?_
         refine .mv rfl (.v (.lss rfl rfl) (.nt kf ?_))
         refine .aA rfl (fun gn=>?_) (fun gn=>?_)
         ·have yf:=SG gn
          refine .seq fun _ kB=>?_
          refine .sr fun _ ke=>?_
          refine .mv rfl ?_
          refine .v (.aZ aR rfl (by exact a8)) ?_
          refine .v (.eql rfl rfl) (.nt ke ?_)
          refine .dH rfl (decide_eq_false (by omega)) ?_
          refine .skip ?_
          refine .ab (kB _ ?_)
          refine .sr fun _ nj=>?_
          refine .mv rfl ?_
          refine .v (.aZ aR rfl (by exact a8)) ?_
          refine .as rfl (.nt nj ?_)
          refine .region ?_
          refine .mv rfl (.v (.ak aM rfl ax rfl rfl) ?_)
          refine .fF 3 rfl aR cC rfl (by decide) rfl (by intro k hk;cases hk;rfl) rfl (aw rfl (aw rfl (aw (aB.one sd) bY))) (by omega) (by omega) (by decide) rfl rfl (fun va _ Mn=>?_)
          refine .as rfl (.nil ?_)
          refine .ab (jy _ _ ({ z.2 with v:=va,ss:=z.2.ss++[(ts.getD z.1 undef)],bR:=z.2.bR++[(ds.getD z.1 default)] }) ⟨lO.1.grow hn lO.2.2.1 (by rw [← lO.2.2.2.1];exact aX IN) yf dd sd Mn,List.mem_append_right _ List.mem_cons_self,by dsimp only;rw [List.length_append];omega,by dsimp only;rw [jd lO.2.2.1];exact lO.2.2.2.1,lO.2.2.2.2.1,lO.2.2.2.2.2.grow (by omega) _⟩ (.cons (rfl) (.cons (s9 rfl (by dsimp only;rw [OF yf])) (aU))) (fun w hw=>by dsimp only;rw [L5 lO.1.p [(ds.getD z.1 default)],← wQ _ _ _ _ Um,List.length_append];have h:=hw.pk [0,1,2,3,4,5,6];exact h))
         ·obtain ⟨me,TX⟩:=Oy gn
          refine .skip ?_
          refine .ab (jy _ _ (z.2) ⟨lO.1,me,lO.2.2⟩ (.cons (rfl) (.cons (s9 rfl TX) (aU))) (fun w hw=>by have h:=hw.pk [0,1,2,3,4,5,6];exact h))
        ·have suv:=hg.1.sv
         have sue:=hg.1.se
         have huT:=hg.1.p.ln
         have aaN:=hg.1.p.len
         refine .region ?_
         refine .v (.fieldAddr lY rfl) (.v (.aa Cd rfl ax rfl) (.mv rfl (.mv rfl (.mv rfl ?_))))
         refine .v (.build (parts:=[(0,.tmp 65),(1,.tmp 66),(2,.tmp 67)]) (cs:=#[.int .i64 (x.1:Int),.int .i64 (y.1:Int),.int .i64 ((DZ u.bR (ds.getD z.1 default):Nat):Int)]) rfl (by kernel_rfl)) ?_
         refine .fF 5 rfl yt JC rfl (by decide) rfl (by intro k hk;cases hk;rfl) rfl (by intro c hc;simp [Value.cells] at hc;rcases hc with rfl | rfl | rfl <;> rfl) (by rw [List.length_map];omega) (by rw [List.length_map];omega) (by decide) rfl rfl (fun W4 _ Yu=>?_)
         refine .v (.fieldAddr lY rfl) ?_
         refine .ah 4 (us:=[W4]) (cs':=[.int .i64 2,.int .i64 0,uv 1,uv x.2.1,W4]) rfl Ua rfl rfl (by rw [aB.cells (by assumption)]) rfl aJ (aT rfl) rfl trivial ?_
         refine .nil (.ag ?_)
         refine .ab (iT _ ?_)
         refine .region ?_
         refine .v (.add rfl rfl (by omega)) ?_
         refine .mv rfl (.nil ?_)
         refine .ab (eI _ _ ((z.1+1,{ u with T:=u.T++[(x.1,y.1,(ds.getD z.1 default))],ve:=W4 })) ⟨by have h:=hg.1.add Xq (by rw [← hg.2.2.2.1];exact IN) (by rw [← hg.2.2.2.1];exact hg.2.1) Yu;rw [← hg.2.2.2.1] at h;exact h,by dsimp only;omega,hg.2.2.1,hg.2.2.2.1,hg.2.2.2.2.1,hg.2.2.2.2.2⟩ (by dsimp only;omega) (aU) (fun w hw=>by dsimp only;rw [List.map_append,List.map_cons,List.map_nil,Df,List.length_append];exact hw.pk [0,1,2,3,4,5,6]))
       ·have IN:z.1=ds.length:=by omega
        refine .exit (.ai (.ai (.ar (.ag ?_))))
        refine .ab (dO _ ?_)
        refine .region ?_
        refine .v (.add rfl rfl (by omega)) ?_
        refine .mv rfl (.nil ?_)
        refine .ab (dw _ _ ((y.1+1,z.2)) ⟨lO.1.letter TK lO.2.2.1 (by rw [← lO.2.2.2.1];exact IN),lO.2.2.1,by dsimp only;omega,lO.2.2.2.2.2⟩ (by dsimp only;omega) (aU) (fun w hw=>by exact hw.pk [0,1,2,3,4,5]))
     ·have Xq:y.1=2:=by omega
      have sky:=c6.1.g.s x.1 (by rw [c6.1.sl];exact c6.2.1)
      have XR:=c6.1.g.d x.1 (by rw [c6.1.sl];exact c6.2.1)
      have aaL:=c6.1.p.len
      have gy:=c6.1
      rw [Xq] at gy
      refine .exit (.ai (.ai (.ar ?_)))
      refine .ab (cW _ ?_)
      refine .sr fun _ lE=>?_
      refine .mv rfl (.mv rfl ?_)
      refine .v (.iN aR rfl rfl (hr:=(by exact a8))) ?_
      refine .v (.da aM rfl (by exact a8) c6.1.sl rfl (by omega)) ?_
      refine .call Ei rfl (fun w hw=>Eo _ w _ (hw.qh hB 0 rfl XR)) trivial rfl ?_
      rintro r o ⟨rfl,rfl⟩
      refine .nt lE ?_
      refine .cond rfl (fun ka=>?_) (fun ka=>?_)
      ·try simp only [bs] at ka
       refine .kK 5 mixed cx (fun _ fA=>?_)
       refine .v fA (.fieldAddr tL rfl) (.v fA (.aa iY rfl ax rfl) (.v fA (.move rfl) ?_))
       refine .v fA (.D8 (a:=1) rfl rfl (by omega)) ?_
       refine .v fA (.IZ rfl rfl) (.nil (SK.fin fA (.v (.fieldAddr tL rfl) ?_)))
       refine .ah 4 (us:=[uv (x.2.1 ||| ((1:cF) <<< x.1))]) (cs':=[.int .i64 2,.int .i64 0,uv 1,uv (x.2.1 ||| ((1:cF) <<< x.1)),y.2.ve]) rfl zX rfl rfl rfl rfl aJ (aT rfl) rfl trivial ?_
       refine .nil (.ag ?_)
       refine .ab (cK _ ?_)
       refine .region ?_
       refine .mv rfl ?_
       refine .v (.add rfl rfl (by omega)) ?_
       refine .as rfl (.nil ?_)
       refine .ab (bJ _ _ ((x.1+1,x.2.1 ||| ((1:cF) <<< x.1),y.2)) ⟨gy.nx c6.2.1,c6.2.2.2.yes (by omega) (by simpa using ka)⟩ (by dsimp only;omega) (aU) (fun w hw=>by exact hw.pk [0,1,2,3,4,5]))
      ·try simp only [bs] at ka
       refine .skip (.ag ?_)
       refine .ab (cK _ ?_)
       refine .region ?_
       refine .mv rfl ?_
       refine .v (.add rfl rfl (by omega)) ?_
       refine .as rfl (.nil ?_)
       refine .ab (bJ _ _ ((x.1+1,x.2.1,y.2)) ⟨gy.nx c6.2.1,c6.2.2.2.no (by simpa using ka)⟩ (by dsimp only;omega) (aU) (fun w hw=>by exact hw.pk [0,1,2,3,4,5]))
   ·have oA:x.1=x.2.2.bR.length:=by have:=aV.1.p.il;omega
    have hlen:=aV.1.p.len
    have hTl:=aV.1.p.ln
    have sxv:=aV.1.se
    refine .exit (.ai (.ai (.ar ?_)))
    refine .ab (dm _ ?_)
    refine .sr fun _ oG=>?_
    refine .mv rfl ?_
    refine .v (.aZ aR rfl (by exact a8)) ?_
    refine .v (.fieldAddr tO rfl) ?_
    refine .ah 4 (us:=[.int .i64 (x.2.2.bR.length:Int)]) (cs':=[.int .i64 2,.int .i64 (x.2.2.bR.length:Int),uv 1,uv x.2.1,x.2.2.ve]) rfl tf rfl rfl rfl rfl aJ (aT rfl) rfl trivial ?_
    refine .nt oG ?_
    refine .sr fun _ wg=>?_
    refine .v (.fieldAddr lY rfl) (.v (.aa Cd rfl ax rfl) ?_)
    refine .aY 5 rfl UH rfl (fun w Fs hw hh bI bc=>Gu w (Fs 5) x.2.2.ve (x.2.2.T.map (yr x.2.2.bR)) (by rw [List.length_map];omega) (hh.at_ 5 _ rfl)) trivial rfl ?_
    rintro r A o ⟨WZ,rfl,rfl,yO,uG⟩
    refine .nt wg ?_
    refine .sr fun _ Ab=>?_
    refine .v (.ak yz rfl ax rfl rfl) ?_
    refine .ah 2 (us:=[.int .i64 2,.int .i64 (x.2.2.bR.length:Int),uv 1,uv x.2.1,x.2.2.ve]) (cs':=[.int .i64 2,.int .i64 (x.2.2.bR.length:Int),uv 1,uv x.2.1,x.2.2.ve]) rfl B9 rfl rfl rfl rfl aJ (aT rfl) rfl trivial ?_
    refine .as rfl (.nt Ab (.ret ?_))
    refine .cO [.cell 4 45,.tmp 5] rfl (.cons (.cell yz rfl ax rfl rfl) (.cons (.tmp rfl) (.nil))) (fun w hw=>⟨_,_,?_,rfl,.of (hw.pk [5])⟩)
    have hg:=aV
    rw [oA] at hg
    obtain ⟨h1,h2⟩:=N9 hg.1.p hg.2 yO uG hn hwj TK
    exact ⟨0,O1 x.2.2.bR x.2.1 WZ,x.2.2.ve,.inr ⟨rfl,hb,h1,rfl,fun w=>(h2 w).trans (Pb w)⟩,aV.1.se,rfl,rfl⟩
end Go.Proofs.YtbibnpdnmmgacaaGreatDoor
namespace Go.Proofs.YtbibnpdnmmgacaaGreatDoor
open Go.Sx Go.RowKit
end Go.Proofs.YtbibnpdnmmgacaaGreatDoor
namespace Go.Proofs.YtbibnpdnmmgacaaGreatDoor
open Go.Sx Go.RowKit
end Go.Proofs.YtbibnpdnmmgacaaGreatDoor
