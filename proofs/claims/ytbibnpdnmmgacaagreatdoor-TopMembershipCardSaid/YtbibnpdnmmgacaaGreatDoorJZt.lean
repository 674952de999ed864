import Derived.Test.YtbibnpdnmmgacaaGreatDoorJZs
import Derived.Test.YtbibnpdnmmgacaaGreatDoorJZg
import Derived.Test.YtbibnpdnmmgacaaGreatDoorJZh
import Derived.Test.YtbibnpdnmmgacaaGreatDoorJZe
import Derived.Test.YtbibnpdnmmgacaaGreatDoorJZr
import Derived.Test.YtbibnpdnmmgacaaGreatDoorJZk
import Derived.Test.YtbibnpdnmmgacaaGreatDoorJZb
import Derived.Test.YtbibnpdnmmgacaaGreatDoorJZc
import Derived.Test.YtbibnpdnmmgacaaGreatDoorJZp
import Derived.Test.YtbibnpdnmmgacaaGreatDoorJZj
import Derived.Test.YtbibnpdnmmgacaaGreatDoorJZd
import Derived.Test.YtbibnpdnmmgacaaGreatDoorJZf
set_option linter.unusedVariables false
set_option linter.unusedSimpArgs false
set_option maxRecDepth 100000
namespace Go.Proofs.YtbibnpdnmmgacaaGreatDoor
open Go.Sx Go.RowKit
theorem s_vis (e:Ex):VisS e:=Ex.ind (P:=VisS) (fun e ih w F pb v N c fol hN h64 sv hT hF hA s h hz hw6=>s_vis_step e ih w F pb v N c fol hN h64 sv hT hF hA s h hz hw6) e
theorem s_einsort (w:World) (s f:Value) (a b:Int) (ha:0≤a∧a≤4611686018427387904) (hb:b≤a+1):CallS Tryz.prog 155 [s,.int .i64 a,.int .i64 b,f] w (fun r o=>o=[]):=by
 refine spec_of Tryz.func155 rfl (leb rfl) ?_
 refine .sr fun _ hK1=>?_
 refine .mv rfl ?_
 refine .v (.add rfl rfl (by omega)) ?_
 refine .as rfl (.nt hK1 (.block ?_))
 refine AK.loopK (X:=Unit) [(0,_),(1,_),(2,_),(3,_)] (fun x=>[(8,.int .i64 (a+1))]) (fun x=>[]) (fun x=>True) (fun x=>0) (()) slr ?_ ?_ ?_ ?_
 ·trivial
 ·exact slr
 ·exact fun w hw=>hw
 ·intro x hg0 _ hK2
  refine .seq fun _ hK3=>?_
  refine .sr fun _ hK4=>?_
  refine .mv rfl (.mv rfl (.v (.lss rfl rfl) (.nt hK4 ?_)))
  refine AK.cond_f rfl (decide_eq_false (by omega)) ?_
  refine .exit (.then_exit (.then_exit (.block_exit ?_)))
  refine AK.endG [] rfl (.nil) (fun w hw=>⟨_,_,?_,rfl,Ret.of (hw.pick [] (by decide) rfl rfl)⟩)
  rfl
theorem s_epdq (w:World) (s f:Value) (n lm:Int) (hb:0≤n∧n≤1):CallS Tryz.prog 109 [s,.int .i64 0,.int .i64 n,.int .i64 lm,f] w (fun r o=>o=[]):=by
 refine spec_of Tryz.func109 rfl (leb rfl) ?_
 refine .sr fun _ hK1=>?_
 refine .as rfl (.nt hK1 ?_)
 refine .sr fun _ hK2=>?_
 refine .as rfl (.nt hK2 (.block ?_))
 refine AK.loopK (X:=Unit) [(0,_),(4,_)] (fun x=>[(1,.int .i64 0),(2,.int .i64 n),(3,.int .i64 lm),(10,.bool true),(11,.bool true)]) (fun x=>[]) (fun x=>True) (fun x=>0) (()) slr ?_ ?_ ?_ ?_
 ·trivial
 ·exact slr
 ·exact fun w hw=>hw
 ·intro x hg0 _ hK3
  refine .block ?_
  refine .sr fun _ hK4=>?_
  refine .mv rfl (.mv rfl ?_)
  refine .v (.sub rfl rfl (by omega)) ?_
  refine .as rfl (.nt hK4 ?_)
  refine .seq fun _ hK5=>?_
  refine .sr fun _ hK6=>?_
  refine .mv rfl (.v (.leq rfl rfl) (.nt hK6 ?_))
  refine AK.cond_t rfl (decide_eq_true (by omega)) ?_
  refine .sr fun _ hK7=>?_
  refine .mv rfl (.mv rfl (.mv rfl (.mv rfl ?_)))
  refine AK.call co155 rfl (fun w hw=>s_einsort w s f 0 n (by omega) (by omega)) trivial rfl ?_
  rintro r o rfl
  refine .nt hK7 (.ret (.then_ret (.block_ret (.then_ret (.block_ret ?_)))))
  refine AK.retG [] rfl (.nil) (fun w hw=>⟨_,_,?_,rfl,Ret.of (hw.pick [] (by decide) rfl rfl)⟩)
  rfl
theorem s_esort1 (w:World) (s f:Value) (n:Nat) (cs:List Value) (hn:n≤1) (hr:Rd (fun b=>¬ (fun _=>False) b) w s 3 n cs):CallS Tryz.prog 57 [s,f] w (fun r o=>o=[]):=by
 refine spec_of Tryz.func57 rfl (leb rfl) ?_
 refine .sr fun _ hK1=>?_
 refine .mv rfl (.v (.lenR sl43 rfl rdp) (.as rfl (.nt hK1 ?_)))
 refine AK.region ?_
 refine .mv rfl (.mv rfl (.mv rfl ?_))
 refine .v (.convI (by kernel_rfl) un130 rfl (wrap_u64 (by omega))) ?_
 refine AK.call co110 rfl (fun w hw=>callS_pureT (Tryz.bits_Len _ w (by omega) (by omega)) (φ:=fun r o=>r = .int .i64 (Lib.bitLen ((n:Int)).toNat)∧o=[]) ⟨rfl,rfl⟩) trivial rfl ?_
 rintro r o ⟨rfl,rfl⟩
 refine .mv rfl ?_
 refine AK.call co109 rfl (fun w hw=>s_epdq w s f n _ (by omega)) trivial rfl ?_
 rintro r o rfl
 refine .nil ?_
 refine AK.endG [] rfl (.nil) (fun w hw=>⟨_,_,?_,rfl,Ret.of (hw.pick [] (by decide) rfl rfl)⟩)
 rfl
theorem sortK_p:SortK Tryz.prog 57 58 [] 3:=fun enc hk h1 cf hO blk off cap d w hcmp hH hb hs=>
 Tryz.slices_SortFunc_f57 3 (fun w=>run_isAgg_agg ag98 w) (fun w=>run_sizeOf_of ag98.2 w) enc hk h1 cf hO 58 #[] blk off cap d w (enters_co co58) hcmp hH hb hs
theorem s_esort (w:World) (F:Nat→Prop) (v:Value) (es:List Edg) (hn:es.length<4611686018427387904) (hA:(row v 98 3 es.length (edc es)).holds w F):CallM Tryz.prog 57 [v,.func (.func 58) #[] #[]] w F (fun r A o=>∃ es':List Edg,A=row v 98 3 es'.length (edc es')∧o=[]∧es'.Perm es∧es'.Pairwise fun a b=>bef b a=false):=by
 by_cases h0:1≤es.length
 ·exact sort_edges sortK_p (fun w a b=>s_cmpe w a b) w F v es ⟨h0,hn⟩ hA
 ·have he:es=[]:=List.eq_nil_of_length_eq_zero (by omega)
  subst he
  have h:=(s_esort1 w v (.func (.func 58) #[] #[]) 0 [] (by omega) ((row_rd hA).mono fun b _ _=>⟨id,rfl⟩)).toM hA
  refine Calls.mono h ?_
  rintro e w' ⟨v',A,own',⟨rfl,ho⟩,h2,h3⟩
  exact ⟨v',_,own',⟨[],rfl,ho,List.Perm.refl _,.nil⟩,h2,h3⟩
set_option maxHeartbeats 4000000 in
theorem s_position (w:World) (e:Ex) (s:Value) (h:RdK (cellR (fun _=>False) w) s e.kids) (hv:validE e 2=0) (hz:szE e≤10) (hT:TbA w):CallS Tryz.prog 17 [.agg #[.int .i64 e.op,.int .i64 e.lt,s],.int .i64 2] w (fun r o=>∃ (er:Int) (n:Nfa) (vE:Value),((er=4∧hbE e=true∧n=nilN)∨(er=0∧hbE e=false∧∃ es:List Edg,n=psN e es∧es.Perm (posE e)∧es.Pairwise fun a b=>bef b a=false))∧IsSl vE∧r = .tuple #[.agg #[.int .i64 n.L,.int .i64 n.S,uv n.st,uv n.fi,vE],.int .i64 er]∧o=[row vE 98 3 n.es.length (edc n.es)]):=by
 have sk:=h.sl
 have hw2:=(valid_sz hv).2.1
 have hw6:=wf_mono (by decide:(2:Int)≤6) e hw2
 have hlz:=lts_sz e
 have h64:(ltsE e).length<64:=by omega
 have hplen:(posL e).length=((ltsE e).length+1):=rfl
 have hv2len:(posV e).2.2.length=((ltsE e).length+1):=(vis_bd e (0,(List.replicate ((ltsE e).length+1) (0:W64))) (by dsimp only;omega)).len.trans (by simp)
 have hflen:(posF e).length=((ltsE e).length+1):=(List.length_set ..).trans hv2len
 refine spec_of Tryz.func17 rfl (leb rfl) ?_
 refine .sr fun _ hK1=>?_
 refine AK.box_ (E:=24) (cs:=[.int .i64 e.op,.int .i64 e.lt,s]) rfl rfl rfl trivial rfl (fun bx2=>?_)
 refine AK.alloc el45 rfl rfl trivial rfl (fun bx4=>?_)
 refine .as rfl (.nt hK1 ?_)
 refine .seq fun _ hK2=>?_
 refine .sr fun _ hK3=>?_
 refine .v (.loadBoxG ag24 rfl bsp rfl rfl) (.mv rfl ?_)
 refine AK.call co53 rfl (fun w hw=>s_plain w e s 2 (h.at hw)) trivial rfl ?_
 rintro r o ⟨rfl,rfl⟩
 rw [if_pos hv]
 refine .as rfl (.nt hK3 ?_)
 refine .sr fun _ hK4=>?_
 refine .mv rfl (.v (.neq rfl rfl) (.nt hK4 ?_))
 refine AK.condNe rfl (fun hc0=>?_) (fun hc0=>?_)
 ·have hb:hbE e=true:=by cases h:hbE e with | true=>rfl | false=>rw [h] at hc0;exact absurd rfl hc0
  refine .sr fun _ hK5=>?_
  refine .v (.build (parts:=[]) (cs:=#[.int .i64 0,.int .i64 0,uv 0,uv 0,.slice none 0 0]) rfl (by kernel_rfl)) ?_
  refine .mv rfl ?_
  refine AK.storeBox 1 (us:=[.int .i64 0,.int .i64 0,uv 0,uv 0,.slice none 0 0]) (cs':=[.int .i64 0,.int .i64 0,uv 0,uv 0,.slice none 0 0]) rfl sz45 rfl rfl rfl rfl oneP (leb rfl) rfl trivial ?_
  refine .as rfl (.nt hK5 (.ret (.then_ret ?_)))
  refine AK.ghost 98 3 ?_
  refine AK.retG [.cell 4 45,.tmp 5] rfl (.cons (.cell ag45 rfl bsp rfl rfl) (.cons (.tmp rfl) (.nil))) (fun w hw=>⟨_,_,?_,rfl,Ret.of (hw.pick [2] (by decide) rfl rfl)⟩)
  refine ⟨4,nilN,.slice none 0 0,.inl ⟨rfl,hb,rfl⟩,nilSl,?_,rfl⟩
  rw [if_pos hb]
  rfl
 ·have hb:hbE e=false:=by cases h:hbE e with | false=>rfl | true=>rw [h] at hc0;exact absurd hc0 (by decide)
  refine .skip ?_
  refine AK.then_ (hK2 _ ?_)
  refine .sr fun _ hK6=>?_
  refine AK.lit (xs:=[.const (.int .i64 (-1))]) sl67 el3 rfl rfl rfl (by simp [Value.cells]) (by decide) (by decide) trivial rfl (fun lv=>?_)
  refine .v (.loadBoxG ag24 rfl bsp rfl rfl) ?_
  refine AK.call co54 rfl (fun w hw=>s_lts e w s (h.at hw) (by omega)) trivial rfl ?_
  rintro lr o ⟨slr_,rfl⟩
  refine AK.appendS 2 rfl sl67 el3 rfl (by decide) rfl rfl rfl (RdS.own 3 rfl) (one'_map _ (fun _=>rfl) _) (by omega) (by omega) trivial rfl (fun av=>?_)
  refine AK.shape 2 rfl (fun sav=>?_)
  refine AK.own' [box bx2 24 3 [.int .i64 e.op,.int .i64 e.lt,s],box bx4 45 5 [.int .i64 0,.int .i64 0,uv 0,uv 0,.slice none 0 0],row av 3 1 ((ltsE e).length+1) ((posL e).map (Value.int .i64))] (fun w hw=>by have h:=hw.pick [0,1,2] (by decide) rfl rfl;rw [Nat.add_comm 1] at h;exact h) ?_
  refine .as rfl (.nt hK6 ?_)
  refine .seq fun _ hK7=>?_
  refine .sr fun _ hK8=>?_
  refine .mv rfl (.v (.lenR sl67 rfl rdp) (.v (.gtr rfl rfl) (.nt hK8 ?_)))
  refine AK.cond_f rfl (decide_eq_false (by omega)) ?_
  refine .skip ?_
  refine AK.then_ (hK7 _ ?_)
  refine .sr fun _ hK9=>?_
  refine .mv rfl (.v (.lenR sl67 rfl rdp) ?_)
  refine AK.make1 sl64 el42 rfl rfl rfl (by omega) (by omega) trivial rfl (fun mv0=>?_)
  refine AK.shape 3 rfl (fun smv=>?_)
  refine .v (.build (parts:=[(1,.tmp 32)]) (cs:=#[.int .i64 0,mv0]) rfl (by obtain ⟨_,_,_,rfl⟩:=smv;kernel_rfl)) ?_
  refine AK.alloc el92 rfl rfl trivial rfl (fun bx8=>?_)
  refine AK.storeBox 4 (us:=[.int .i64 0,mv0]) (cs':=[.int .i64 0,mv0]) rfl sz92 rfl rfl rfl rfl oneP (leb rfl) rfl trivial ?_
  refine .nt hK9 ?_
  refine .sr fun _ hK10=>?_
  refine .v (.loadBoxG ag24 rfl bsp rfl rfl) ?_
  refine AK.own' [bigA [box bx8 92 2 [.int .i64 ((0:Nat):Int),mv0],row mv0 42 1 ((ltsE e).length+1) (((List.replicate ((ltsE e).length+1) (0:W64))).map uv)],box bx2 24 3 [.int .i64 e.op,.int .i64 e.lt,s],box bx4 45 5 [.int .i64 0,.int .i64 0,uv 0,uv 0,.slice none 0 0],row av 3 1 ((ltsE e).length+1) ((posL e).map (Value.int .i64))] (fun w hw=>by have h:=HW.unflat (l:=[_,_]) (own:=[_,_,_]) (hw.pick [4,3,0,1,2] (by decide) rfl rfl);rw [List.map_replicate];exact h) ?_
  refine AK.callN 0 rfl co55 rfl (fun w Fs hw hh hfr hal=>s_vis e w (Fs 0) bx8 mv0 ((ltsE e).length+1) 0 (List.replicate ((ltsE e).length+1) (0:W64)) (by simp) (by omega) smv (hT.at hw) (fun hb=>by rcases hal 0 0 hb with h | h;exact absurd hT.lt (Nat.not_lt.2 h);exact h) (hh.at_ 0 _ rfl) s (h.atN hfr hal 0) (by omega) hw6) trivial rfl ?_
  rintro r A o ⟨rfl,rfl,rfl⟩
  refine AK.flat0 rfl ?_
  refine AK.own' [box bx8 92 2 [.int .i64 (((posV e).2.1:Nat):Int),mv0],row mv0 42 1 ((ltsE e).length+1) (((posV e).2.2).map uv),box bx2 24 3 [.int .i64 e.op,.int .i64 e.lt,s],box bx4 45 5 [.int .i64 0,.int .i64 0,uv 0,uv 0,.slice none 0 0],row av 3 1 ((ltsE e).length+1) ((posL e).map (Value.int .i64))] (fun w hw=>hw) ?_
  refine AK.alloc el94 rfl rfl trivial rfl (fun bx9=>?_)
  refine AK.storeBox 5 (us:=[uv (posV e).1.1,uv (posV e).1.2.1,.bool (posV e).1.2.2]) (cs':=[uv (posV e).1.1,uv (posV e).1.2.1,.bool (posV e).1.2.2]) rfl sz94 rfl rfl rfl rfl oneP (leb rfl) rfl trivial ?_
  refine .nt hK10 ?_
  refine .sr fun _ hK11=>?_
  refine .v (.fieldAddr fd92_1 rfl) (.v (.loadBox on64 rfl bsp rfl) (.v (.fieldAddr fd94_0 rfl) (.v (.loadBox on42 rfl bsp rfl) ?_)))
  refine .v (.idxN (k:=0) sl64 rfl rfl rdp (by decide) (by omega)) ?_
  refine AK.store1e 1 rfl sz42 rfl rfl rfl rfl (by omega) (cs':=((posF e).map uv)) ((by unfold posF;rw [List.map_set])) trivial ?_
  refine .nt hK11 ?_
  refine .sr fun _ hK12=>?_
  refine .mv rfl (.mv rfl (.v (.lenR sl67 rfl rdp) (.v (.fieldAddr fd94_1 rfl) (.v (.loadBox on42 rfl bsp rfl) ?_))))
  refine .v (.build (parts:=[(0,.tmp 41),(1,.tmp 43),(2,.const (.int .u64 1)),(3,.tmp 45)]) (cs:=#[.int .i64 2,.int .i64 ((((ltsE e).length+1):Nat):Int),uv 1,uv ((posV e).1.2.1),.slice none 0 0]) rfl (by kernel_rfl)) ?_
  refine AK.alloc el45 rfl rfl trivial rfl (fun bx10=>?_)
  refine AK.storeBox 6 (us:=[.int .i64 2,.int .i64 ((((ltsE e).length+1):Nat):Int),uv 1,uv ((posV e).1.2.1),.slice none 0 0]) (cs':=[.int .i64 2,.int .i64 ((((ltsE e).length+1):Nat):Int),uv 1,uv ((posV e).1.2.1),.slice none 0 0]) rfl sz45 rfl rfl rfl rfl oneP (leb rfl) rfl trivial ?_
  refine .nt hK12 ?_
  refine .seq fun _ hK13=>?_
  refine .sr fun _ hK14=>?_
  refine .v (.fieldAddr fd94_2 rfl) (.v (.loadBox on4 rfl bsp rfl) (.nt hK14 ?_))
  refine AK.cond rfl (fun hc2=>?_) (fun hc2=>?_)
  ·try simp only [bs] at hc2
   have eT:posT e=(posV e).1.2.1 ||| 1:=if_pos hc2
   refine AK.region ?_
   refine .v (.fieldAddr fd45_3 rfl) (.v (.loadBox on42 rfl bsp rfl) (.v (.orU (b:=1) rfl rfl) (.v (.fieldAddr fd45_3 rfl) ?_)))
   refine AK.storeBox 6 (us:=[uv ((posV e).1.2.1 ||| 1)]) (cs':=[.int .i64 2,.int .i64 ((((ltsE e).length+1):Nat):Int),uv 1,uv ((posV e).1.2.1 ||| 1),.slice none 0 0]) rfl sz42 rfl rfl rfl rfl oneP (leb rfl) rfl trivial ?_
   refine .nt hK13 ?_
   refine .seq fun _ hK15=>?_
   refine .sr fun _ hK16=>?_
   refine .v (.fieldAddr fd92_1 rfl) (.v (.loadBox on64 rfl bsp rfl) (.v (.lenR sl64 rfl rdp) (.mv rfl (.nt hK16 (.block ?_)))))
   refine AK.loopK (X:=Nat × Value) [(4,_),(7,_),(10,_),(54,_),(55,_)] (fun x=>[(56,.int .i64 (x.1:Int))]) (fun x=>[box bx4 45 5 [.int .i64 0,.int .i64 0,uv 0,uv 0,.slice none 0 0],row av 3 1 ((ltsE e).length+1) ((posL e).map (Value.int .i64)),box bx8 92 2 [.int .i64 (((posV e).2.1:Nat):Int),mv0],row mv0 42 1 ((ltsE e).length+1) ((posF e).map uv),box bx9 94 3 [uv (posV e).1.1,uv (posV e).1.2.1,.bool (posV e).1.2.2],box bx10 45 5 [.int .i64 2,.int .i64 ((((ltsE e).length+1):Nat):Int),uv 1,uv (posT e),x.2],row x.2 98 3 (pEs (posL e) (posF e) x.1).length (edc (pEs (posL e) (posF e) x.1))]) (fun x=>x.1≤((ltsE e).length+1)∧IsSl x.2) (fun x=>((ltsE e).length+1) - x.1) ((0,.slice none 0 0)) slr ?_ ?_ ?_ ?_
   ·exact ⟨Nat.zero_le _,nilSl⟩
   ·exact slr
   ·exact fun w hw=>by rw [eT];have h:=hw.ghost 98 3;exact h.pick [3,4,0,1,5,6,7] (by decide) rfl rfl
   ·intro x hg0 _ hK17
    refine .sr fun _ hK18=>?_
    refine .v (.lss rfl rfl) (.nt hK18 ?_)
    refine .seq fun _ hK19=>?_
    refine AK.condD rfl (fun hc3=>?_) (fun hc3=>?_)
    ·have hxN:x.1<((ltsE e).length+1):=by omega
     have hml:=mems_len ((posF e).getD x.1 0)
     have hel:=pEs_len (posL e) (posF e) x.1
     refine .skip ?_
     refine AK.then_ (hK19 _ ?_)
     refine .seq fun _ hK20=>?_
     refine .block ?_
     refine .sr fun _ hK21=>?_
     refine .mv rfl ?_
     first | refine .v (.iN sl64 rfl rfl) ?_ | refine .v (.iK sl64 rfl rfl) ?_
     refine .v (.loadU on42 rfl rdp (by omega)) ?_
     refine .as rfl (.as rfl (.nt hK21 ?_))
     refine .sr fun _ hK22=>?_
     refine .mv rfl ?_
     refine AK.call co56 rfl (fun w hw=>s_members w ((posF e).getD x.1 0) (hT.at hw)) trivial rfl ?_
     rintro mv o ⟨smv2,rfl⟩
     refine .v (.lenR sl67 rfl rdp) (.mv rfl (.nt hK22 (.block ?_)))
     refine AK.loopK (X:=Nat × Value) [(4,_),(7,_),(10,_),(11,_),(54,_),(55,_),(56,_),(62,_),(63,_)] (fun y=>[(64,.int .i64 (y.1:Int))]) (fun y=>[box bx4 45 5 [.int .i64 0,.int .i64 0,uv 0,uv 0,.slice none 0 0],row av 3 1 ((ltsE e).length+1) ((posL e).map (Value.int .i64)),box bx8 92 2 [.int .i64 (((posV e).2.1:Nat):Int),mv0],row mv0 42 1 ((ltsE e).length+1) ((posF e).map uv),box bx9 94 3 [uv (posV e).1.1,uv (posV e).1.2.1,.bool (posV e).1.2.2],box bx10 45 5 [.int .i64 2,.int .i64 ((((ltsE e).length+1):Nat):Int),uv 1,uv (posT e),y.2],row y.2 98 3 (pEs (posL e) (posF e) x.1++pEr (posL e) (posF e) x.1 (y.1)).length (edc (pEs (posL e) (posF e) x.1++pEr (posL e) (posF e) x.1 (y.1))),row mv 3 1 (mems ((posF e).getD x.1 0)).length ((mI (mems ((posF e).getD x.1 0))).map (Value.int .i64))]) (fun y=>y.1≤(mems ((posF e).getD x.1 0)).length∧IsSl y.2) (fun y=>(mems ((posF e).getD x.1 0)).length - y.1) ((0,x.2)) slr ?_ ?_ ?_ ?_
     ·exact ⟨Nat.zero_le _,hg0.2⟩
     ·exact slr
     ·exact fun w hw=>by rw [show pEr (posL e) (posF e) x.1 0=[] from rfl,List.append_nil];exact hw
     ·intro y hg1 _ hK23
      have sy:=hg1.2
      refine .sr fun _ hK24=>?_
      refine .v (.lss rfl rfl) (.nt hK24 ?_)
      refine .seq fun _ hK25=>?_
      refine AK.condD rfl (fun hc4=>?_) (fun hc4=>?_)
      ·have hj:y.1<(mems ((posF e).getD x.1 0)).length:=by omega
       have hto:=posF_bd hw6 hb h64 hxN (mem_mems.1 (getD_mem (d:=0) hj))
       have hel2:=pEr_len (posL e) (posF e) x.1 y.1
       have hel3:(pEs (posL e) (posF e) x.1++pEr (posL e) (posF e) x.1 (y.1)).length≤100000:=by rw [List.length_append];omega
       refine .skip ?_
       refine AK.then_ (hK25 _ ?_)
       refine .seq fun _ hK26=>?_
       refine .block ?_
       refine .sr fun _ hK27=>?_
       first | refine .v (.iN sl67 rfl rfl) ?_ | refine .v (.iK sl67 rfl rfl) ?_
       refine AK.val (.int .i64 ((((mems ((posF e).getD x.1 0)).getD y.1 0):Nat):Int)) (Yl.valE (Yl.loadI on3 rfl rdp (by rw [mI_len];omega)) (congrArg (Value.int .i64) (mI_get (by omega)))) trivial rfl ?_
       refine .as rfl (.nt hK27 ?_)
       refine AK.joinK (X:=Value) [(4,_),(7,_),(10,_),(11,_),(54,_),(55,_),(56,_),(62,_),(63,_),(64,_)] (fun z=>[]) (fun z=>[box bx4 45 5 [.int .i64 0,.int .i64 0,uv 0,uv 0,.slice none 0 0],row av 3 1 ((ltsE e).length+1) ((posL e).map (Value.int .i64)),box bx8 92 2 [.int .i64 (((posV e).2.1:Nat):Int),mv0],row mv0 42 1 ((ltsE e).length+1) ((posF e).map uv),box bx9 94 3 [uv (posV e).1.1,uv (posV e).1.2.1,.bool (posV e).1.2.2],box bx10 45 5 [.int .i64 2,.int .i64 ((((ltsE e).length+1):Nat):Int),uv 1,uv (posT e),z],row z 98 3 (pEs (posL e) (posF e) x.1++pEr (posL e) (posF e) x.1 (y.1+1)).length (edc (pEs (posL e) (posF e) x.1++pEr (posL e) (posF e) x.1 (y.1+1))),row mv 3 1 (mems ((posF e).getD x.1 0)).length ((mI (mems ((posF e).getD x.1 0))).map (Value.int .i64))]) (fun z=>IsSl z) slr (fun _ hJ=>?_) (fun z hg=>?_)
       ·try (conv=>enter [2,2];simp only [nrm])
        refine AK.heldS _ 12 (fun _ hw=>hw.pick [1,5] (by decide) rfl rfl) mixed ?_
        refine HeldK.firstS (fun _ hw=>hw.pick [1,5] (by decide) rfl rfl) 0 (fuel:=12) (listed':=(lb 13 1)) _ rfl krf krf rfl (Yl.fieldAddr fd45_4 rfl) trivial rfl ?_
        refine HeldK.firstS (fun _ hw=>hw.pick [1,5] (by decide) rfl rfl) 1 (fuel:=11) (listed':=(lb 13 3)) _ rfl krf krf rfl (Yl.loadBox on43 rfl bsp rfl) trivial rfl ?_
        refine HeldK.firstS (fun _ hw=>hw.pick [1,5] (by decide) rfl rfl) 2 (fuel:=10) (listed':=(lb 13 7)) _ rfl krf krf rfl (Yl.move rfl) trivial rfl ?_
        refine HeldK.firstS (fun _ hw=>hw.pick [1,5] (by decide) rfl rfl) 3 (fuel:=9) (listed':=(lb 13 15)) _ rfl krf krf rfl (Yl.move rfl) trivial rfl ?_
        refine HeldK.firstS (fun _ hw=>hw.pick [1,5] (by decide) rfl rfl) 4 (fuel:=8) (listed':=(lb 13 31)) _ rfl krf krf rfl (Yl.move rfl) trivial rfl ?_
        first | refine HeldK.firstS (fun _ hw=>hw.pick [1,5] (by decide) rfl rfl) 5 (fuel:=7) (listed':=(lb 13 63)) _ rfl krf krf rfl (.iN sl67 rfl rfl) trivial rfl ?_ | refine HeldK.firstS (fun _ hw=>hw.pick [1,5] (by decide) rfl rfl) 5 (fuel:=7) (listed':=(lb 13 63)) _ rfl krf krf rfl (.iK sl67 rfl rfl) trivial rfl ?_
        refine HeldK.firstS (fun _ hw=>hw.pick [1,5] (by decide) rfl rfl) 6 (fuel:=6) (listed':=(lb 13 127)) _ rfl krf krf rfl (Yl.loadI on3 rfl rdp (by omega)) trivial rfl ?_
        refine HeldK.firstS (fun _ hw=>hw.pick [1,5] (by decide) rfl rfl) 7 (fuel:=5) (listed':=(lb 13 255)) _ rfl krf krf rfl (Yl.move rfl) trivial rfl ?_
        refine HeldK.firstS (fun _ hw=>hw.pick [1,5] (by decide) rfl rfl) 8 (fuel:=4) (listed':=(lb 13 511)) _ rfl krf krf rfl (Yl.build (parts:=[(0,.tmp 70),(1,.tmp 74),(2,.tmp 75)]) (cs:=#[.int .i64 (x.1:Int),.int .i64 ((posL e).getD ((mems ((posF e).getD x.1 0)).getD y.1 0) 0),.int .i64 ((((mems ((posF e).getD x.1 0)).getD y.1 0):Nat):Int)]) rfl (by kernel_rfl)) trivial rfl ?_
        refine HeldK.one 9 (fuel:=3) (listed':=(lb 13 1023)) krf rfl krf ?_
        refine AK.lit (xs:=[.tmp 76]) sl43 el98 rfl rfl rfl (by simp [Value.cells]) (by decide) (by decide) trivial rfl (fun lw=>?_)
        refine .nil ?_
        try (conv=>enter [2,2];simp only [nrm])
        refine HeldK.backS (fun _ hw=>hw.pick [1,5] (by decide) rfl rfl) ?_
        refine HeldK.one 10 (fuel:=2) (listed':=(lb 13 2047)) krf rfl krf ?_
        refine AK.appendS 6 rfl sl43 el98 rfl (by decide) rfl rfl rfl rdp (by intro c hc;simp [Value.cells] at hc;rcases hc with rfl | rfl | rfl <;> rfl) (by omega) (by omega) trivial rfl (fun va=>?_)
        refine AK.shape 6 rfl (fun sva=>?_)
        refine .nil ?_
        try (conv=>enter [2,2];simp only [nrm])
        refine HeldK.backS (fun _ hw=>hw.pick [1,5] (by decide) rfl rfl) ?_
        refine HeldK.firstS (fun _ hw=>hw.pick [1,5] (by decide) rfl rfl) 11 (fuel:=1) (listed':=(lb 13 4095)) _ rfl krf krf rfl (Yl.fieldAddr fd45_4 rfl) trivial rfl ?_
        refine HeldK.one 12 (fuel:=0) (listed':=(lb 13 8191)) krf rfl krf ?_
        refine AK.storeBox 5 (us:=[va]) (cs':=[.int .i64 2,.int .i64 ((((ltsE e).length+1):Nat):Int),uv 1,uv (posT e),va]) rfl sz43 rfl rfl (by rw [IsSl.cells (by assumption)]) rfl oneP (leb rfl) rfl trivial ?_
        refine .nil ?_
        try (conv=>enter [2,2];simp only [nrm])
        refine HeldK.backN 13 krf rfl krf ?_
        refine .nil ?_
        refine AK.fromQn ?_
        exact hJ _ _ (va) sva (slr) (fun w hw=>by have e:pEs (posL e) (posF e) x.1++pEr (posL e) (posF e) x.1 (y.1+1)=(pEs (posL e) (posF e) x.1++pEr (posL e) (posF e) x.1 (y.1))++[((x.1:Int),(posL e).getD ((mems ((posF e).getD x.1 0)).getD y.1 0) 0,((((mems ((posF e).getD x.1 0)).getD y.1 0):Nat):Int))]:=(by rw [pEr_next hj,List.append_assoc]);rw [e,edc_snoc,List.length_append];have h:=hw.pick [0,1,2,3,4,5,6,7] (by decide) rfl rfl;exact h)
       ·have sz:=hg
        refine .block_normal ?_
        refine AK.then_ (hK26 _ ?_)
        refine AK.region ?_
        refine .v (.add rfl rfl (by omega)) ?_
        refine .mv rfl (.nil ?_)
        refine AK.then_ (hK23 _ _ ((y.1+1,z)) ⟨by dsimp only;omega,hg⟩ (by dsimp only;omega) (slr) (fun w hw=>hw))
      ·have hj:y.1=(mems ((posF e).getD x.1 0)).length:=by omega
       refine .exit (.then_exit (.then_exit (.block_exit (.block_normal ?_))))
       refine AK.then_ (hK20 _ ?_)
       refine AK.region ?_
       refine .v (.add rfl rfl (by omega)) ?_
       refine .mv rfl (.nil ?_)
       refine AK.then_ (hK17 _ _ ((x.1+1,y.2)) ⟨by dsimp only;omega,hg1.2⟩ (by dsimp only;omega) (slr) (fun w hw=>by rw [hj] at hw;exact hw.pick [0,1,2,3,4,5,6] (by decide) rfl rfl))
    ·have hxN:x.1=((ltsE e).length+1):=by omega
     have sxx:=hg0.2
     refine .exit (.then_exit (.then_exit (.block_exit ?_)))
     refine AK.then_ (hK15 _ ?_)
     refine .sr fun _ hK28=>?_
     refine .v (.fieldAddr fd45_4 rfl) (.v (.loadBox on43 rfl bsp rfl) ?_)
     refine AK.own' [box bx4 45 5 [.int .i64 0,.int .i64 0,uv 0,uv 0,.slice none 0 0],row av 3 1 ((ltsE e).length+1) ((posL e).map (Value.int .i64)),box bx8 92 2 [.int .i64 (((posV e).2.1:Nat):Int),mv0],row mv0 42 1 ((ltsE e).length+1) ((posF e).map uv),box bx9 94 3 [uv (posV e).1.1,uv (posV e).1.2.1,.bool (posV e).1.2.2],box bx10 45 5 [.int .i64 2,.int .i64 ((((ltsE e).length+1):Nat):Int),uv 1,uv (posT e),x.2],row x.2 98 3 (posE e).length (edc (posE e))] (fun w hw=>by rw [hxN] at hw;exact hw) ?_
     refine AK.callN 6 rfl co57 rfl (fun w Fs hw hh hfr hal=>s_esort w (Fs 6) x.2 (posE e) (by have:=pEs_len (posL e) (posF e) ((ltsE e).length+1);show (pEs _ _ _).length<_;omega) (hh.at_ 6 _ rfl)) trivial rfl ?_
     rintro r A o ⟨es1,rfl,rfl,hp1,hs1⟩
     refine .nt hK28 ?_
     refine .sr fun _ hK29=>?_
     refine .v (.loadBoxG ag45 rfl bsp rfl rfl) ?_
     refine AK.storeBox 0 (us:=[.int .i64 2,.int .i64 ((((ltsE e).length+1):Nat):Int),uv 1,uv (posT e),x.2]) (cs':=[.int .i64 2,.int .i64 ((((ltsE e).length+1):Nat):Int),uv 1,uv (posT e),x.2]) rfl sz45 rfl rfl rfl rfl oneP (leb rfl) rfl trivial ?_
     refine .as rfl (.nt hK29 (.ret ?_))
     refine AK.retG [.cell 4 45,.tmp 5] rfl (.cons (.cell ag45 rfl bsp rfl rfl) (.cons (.tmp rfl) (.nil))) (fun w hw=>⟨_,_,?_,rfl,Ret.of (hw.pick [6] (by decide) rfl rfl)⟩)
     exact ⟨0,psN e es1,x.2,.inr ⟨rfl,hb,es1,rfl,hp1,hs1⟩,hg0.2,rfl,rfl⟩
  ·try simp only [bs] at hc2
   have eT:posT e=(posV e).1.2.1:=if_neg (by rw [hc2];decide)
   refine .skip ?_
   refine AK.then_ (hK13 _ ?_)
   refine .seq fun _ hK30=>?_
   refine .sr fun _ hK31=>?_
   refine .v (.fieldAddr fd92_1 rfl) (.v (.loadBox on64 rfl bsp rfl) (.v (.lenR sl64 rfl rdp) (.mv rfl (.nt hK31 (.block ?_)))))
   refine AK.loopK (X:=Nat × Value) [(4,_),(7,_),(10,_),(54,_),(55,_)] (fun x=>[(56,.int .i64 (x.1:Int))]) (fun x=>[box bx4 45 5 [.int .i64 0,.int .i64 0,uv 0,uv 0,.slice none 0 0],row av 3 1 ((ltsE e).length+1) ((posL e).map (Value.int .i64)),box bx8 92 2 [.int .i64 (((posV e).2.1:Nat):Int),mv0],row mv0 42 1 ((ltsE e).length+1) ((posF e).map uv),box bx9 94 3 [uv (posV e).1.1,uv (posV e).1.2.1,.bool (posV e).1.2.2],box bx10 45 5 [.int .i64 2,.int .i64 ((((ltsE e).length+1):Nat):Int),uv 1,uv (posT e),x.2],row x.2 98 3 (pEs (posL e) (posF e) x.1).length (edc (pEs (posL e) (posF e) x.1))]) (fun x=>x.1≤((ltsE e).length+1)∧IsSl x.2) (fun x=>((ltsE e).length+1) - x.1) ((0,.slice none 0 0)) slr ?_ ?_ ?_ ?_
   ·exact ⟨Nat.zero_le _,nilSl⟩
   ·exact slr
   ·exact fun w hw=>by rw [eT];have h:=hw.ghost 98 3;exact h.pick [3,4,0,1,5,6,7] (by decide) rfl rfl
   ·intro x hg0 _ hK32
    refine .sr fun _ hK33=>?_
    refine .v (.lss rfl rfl) (.nt hK33 ?_)
    refine .seq fun _ hK34=>?_
    refine AK.condD rfl (fun hc3=>?_) (fun hc3=>?_)
    ·have hxN:x.1<((ltsE e).length+1):=by omega
     have hml:=mems_len ((posF e).getD x.1 0)
     have hel:=pEs_len (posL e) (posF e) x.1
     refine .skip ?_
     refine AK.then_ (hK34 _ ?_)
     refine .seq fun _ hK35=>?_
     refine .block ?_
     refine .sr fun _ hK36=>?_
     refine .mv rfl ?_
     first | refine .v (.iN sl64 rfl rfl) ?_ | refine .v (.iK sl64 rfl rfl) ?_
     refine .v (.loadU on42 rfl rdp (by omega)) ?_
     refine .as rfl (.as rfl (.nt hK36 ?_))
     refine .sr fun _ hK37=>?_
     refine .mv rfl ?_
     refine AK.call co56 rfl (fun w hw=>s_members w ((posF e).getD x.1 0) (hT.at hw)) trivial rfl ?_
     rintro mv o ⟨smv2,rfl⟩
     refine .v (.lenR sl67 rfl rdp) (.mv rfl (.nt hK37 (.block ?_)))
     refine AK.loopK (X:=Nat × Value) [(4,_),(7,_),(10,_),(11,_),(54,_),(55,_),(56,_),(62,_),(63,_)] (fun y=>[(64,.int .i64 (y.1:Int))]) (fun y=>[box bx4 45 5 [.int .i64 0,.int .i64 0,uv 0,uv 0,.slice none 0 0],row av 3 1 ((ltsE e).length+1) ((posL e).map (Value.int .i64)),box bx8 92 2 [.int .i64 (((posV e).2.1:Nat):Int),mv0],row mv0 42 1 ((ltsE e).length+1) ((posF e).map uv),box bx9 94 3 [uv (posV e).1.1,uv (posV e).1.2.1,.bool (posV e).1.2.2],box bx10 45 5 [.int .i64 2,.int .i64 ((((ltsE e).length+1):Nat):Int),uv 1,uv (posT e),y.2],row y.2 98 3 (pEs (posL e) (posF e) x.1++pEr (posL e) (posF e) x.1 (y.1)).length (edc (pEs (posL e) (posF e) x.1++pEr (posL e) (posF e) x.1 (y.1))),row mv 3 1 (mems ((posF e).getD x.1 0)).length ((mI (mems ((posF e).getD x.1 0))).map (Value.int .i64))]) (fun y=>y.1≤(mems ((posF e).getD x.1 0)).length∧IsSl y.2) (fun y=>(mems ((posF e).getD x.1 0)).length - y.1) ((0,x.2)) slr ?_ ?_ ?_ ?_
     ·exact ⟨Nat.zero_le _,hg0.2⟩
     ·exact slr
     ·exact fun w hw=>by rw [show pEr (posL e) (posF e) x.1 0=[] from rfl,List.append_nil];exact hw
     ·intro y hg1 _ hK38
      have sy:=hg1.2
      refine .sr fun _ hK39=>?_
      refine .v (.lss rfl rfl) (.nt hK39 ?_)
      refine .seq fun _ hK40=>?_
      refine AK.condD rfl (fun hc4=>?_) (fun hc4=>?_)
      ·have hj:y.1<(mems ((posF e).getD x.1 0)).length:=by omega
       have hto:=posF_bd hw6 hb h64 hxN (mem_mems.1 (getD_mem (d:=0) hj))
       have hel2:=pEr_len (posL e) (posF e) x.1 y.1
       have hel3:(pEs (posL e) (posF e) x.1++pEr (posL e) (posF e) x.1 (y.1)).length≤100000:=by rw [List.length_append];omega
       refine .skip ?_
       refine AK.then_ (hK40 _ ?_)
       refine .seq fun _ hK41=>?_
       refine .block ?_
       refine .sr fun _ hK42=>?_
       first | refine .v (.iN sl67 rfl rfl) ?_ | refine .v (.iK sl67 rfl rfl) ?_
       refine AK.val (.int .i64 ((((mems ((posF e).getD x.1 0)).getD y.1 0):Nat):Int)) (Yl.valE (Yl.loadI on3 rfl rdp (by rw [mI_len];omega)) (congrArg (Value.int .i64) (mI_get (by omega)))) trivial rfl ?_
       refine .as rfl (.nt hK42 ?_)
       refine AK.joinK (X:=Value) [(4,_),(7,_),(10,_),(11,_),(54,_),(55,_),(56,_),(62,_),(63,_),(64,_)] (fun z=>[]) (fun z=>[box bx4 45 5 [.int .i64 0,.int .i64 0,uv 0,uv 0,.slice none 0 0],row av 3 1 ((ltsE e).length+1) ((posL e).map (Value.int .i64)),box bx8 92 2 [.int .i64 (((posV e).2.1:Nat):Int),mv0],row mv0 42 1 ((ltsE e).length+1) ((posF e).map uv),box bx9 94 3 [uv (posV e).1.1,uv (posV e).1.2.1,.bool (posV e).1.2.2],box bx10 45 5 [.int .i64 2,.int .i64 ((((ltsE e).length+1):Nat):Int),uv 1,uv (posT e),z],row z 98 3 (pEs (posL e) (posF e) x.1++pEr (posL e) (posF e) x.1 (y.1+1)).length (edc (pEs (posL e) (posF e) x.1++pEr (posL e) (posF e) x.1 (y.1+1))),row mv 3 1 (mems ((posF e).getD x.1 0)).length ((mI (mems ((posF e).getD x.1 0))).map (Value.int .i64))]) (fun z=>IsSl z) slr (fun _ hJ=>?_) (fun z hg=>?_)
       ·try (conv=>enter [2,2];simp only [nrm])
        refine AK.heldS _ 12 (fun _ hw=>hw.pick [1,5] (by decide) rfl rfl) mixed ?_
        refine HeldK.firstS (fun _ hw=>hw.pick [1,5] (by decide) rfl rfl) 0 (fuel:=12) (listed':=(lb 13 1)) _ rfl krf krf rfl (Yl.fieldAddr fd45_4 rfl) trivial rfl ?_
        refine HeldK.firstS (fun _ hw=>hw.pick [1,5] (by decide) rfl rfl) 1 (fuel:=11) (listed':=(lb 13 3)) _ rfl krf krf rfl (Yl.loadBox on43 rfl bsp rfl) trivial rfl ?_
        refine HeldK.firstS (fun _ hw=>hw.pick [1,5] (by decide) rfl rfl) 2 (fuel:=10) (listed':=(lb 13 7)) _ rfl krf krf rfl (Yl.move rfl) trivial rfl ?_
        refine HeldK.firstS (fun _ hw=>hw.pick [1,5] (by decide) rfl rfl) 3 (fuel:=9) (listed':=(lb 13 15)) _ rfl krf krf rfl (Yl.move rfl) trivial rfl ?_
        refine HeldK.firstS (fun _ hw=>hw.pick [1,5] (by decide) rfl rfl) 4 (fuel:=8) (listed':=(lb 13 31)) _ rfl krf krf rfl (Yl.move rfl) trivial rfl ?_
        first | refine HeldK.firstS (fun _ hw=>hw.pick [1,5] (by decide) rfl rfl) 5 (fuel:=7) (listed':=(lb 13 63)) _ rfl krf krf rfl (.iN sl67 rfl rfl) trivial rfl ?_ | refine HeldK.firstS (fun _ hw=>hw.pick [1,5] (by decide) rfl rfl) 5 (fuel:=7) (listed':=(lb 13 63)) _ rfl krf krf rfl (.iK sl67 rfl rfl) trivial rfl ?_
        refine HeldK.firstS (fun _ hw=>hw.pick [1,5] (by decide) rfl rfl) 6 (fuel:=6) (listed':=(lb 13 127)) _ rfl krf krf rfl (Yl.loadI on3 rfl rdp (by omega)) trivial rfl ?_
        refine HeldK.firstS (fun _ hw=>hw.pick [1,5] (by decide) rfl rfl) 7 (fuel:=5) (listed':=(lb 13 255)) _ rfl krf krf rfl (Yl.move rfl) trivial rfl ?_
        refine HeldK.firstS (fun _ hw=>hw.pick [1,5] (by decide) rfl rfl) 8 (fuel:=4) (listed':=(lb 13 511)) _ rfl krf krf rfl (Yl.build (parts:=[(0,.tmp 70),(1,.tmp 74),(2,.tmp 75)]) (cs:=#[.int .i64 (x.1:Int),.int .i64 ((posL e).getD ((mems ((posF e).getD x.1 0)).getD y.1 0) 0),.int .i64 ((((mems ((posF e).getD x.1 0)).getD y.1 0):Nat):Int)]) rfl (by kernel_rfl)) trivial rfl ?_
        refine HeldK.one 9 (fuel:=3) (listed':=(lb 13 1023)) krf rfl krf ?_
        refine AK.lit (xs:=[.tmp 76]) sl43 el98 rfl rfl rfl (by simp [Value.cells]) (by decide) (by decide) trivial rfl (fun lw=>?_)
        refine .nil ?_
        try (conv=>enter [2,2];simp only [nrm])
        refine HeldK.backS (fun _ hw=>hw.pick [1,5] (by decide) rfl rfl) ?_
        refine HeldK.one 10 (fuel:=2) (listed':=(lb 13 2047)) krf rfl krf ?_
        refine AK.appendS 6 rfl sl43 el98 rfl (by decide) rfl rfl rfl rdp (by intro c hc;simp [Value.cells] at hc;rcases hc with rfl | rfl | rfl <;> rfl) (by omega) (by omega) trivial rfl (fun va=>?_)
        refine AK.shape 6 rfl (fun sva=>?_)
        refine .nil ?_
        try (conv=>enter [2,2];simp only [nrm])
        refine HeldK.backS (fun _ hw=>hw.pick [1,5] (by decide) rfl rfl) ?_
        refine HeldK.firstS (fun _ hw=>hw.pick [1,5] (by decide) rfl rfl) 11 (fuel:=1) (listed':=(lb 13 4095)) _ rfl krf krf rfl (Yl.fieldAddr fd45_4 rfl) trivial rfl ?_
        refine HeldK.one 12 (fuel:=0) (listed':=(lb 13 8191)) krf rfl krf ?_
        refine AK.storeBox 5 (us:=[va]) (cs':=[.int .i64 2,.int .i64 ((((ltsE e).length+1):Nat):Int),uv 1,uv (posT e),va]) rfl sz43 rfl rfl (by rw [IsSl.cells (by assumption)]) rfl oneP (leb rfl) rfl trivial ?_
        refine .nil ?_
        try (conv=>enter [2,2];simp only [nrm])
        refine HeldK.backN 13 krf rfl krf ?_
        refine .nil ?_
        refine AK.fromQn ?_
        exact hJ _ _ (va) sva (slr) (fun w hw=>by have e:pEs (posL e) (posF e) x.1++pEr (posL e) (posF e) x.1 (y.1+1)=(pEs (posL e) (posF e) x.1++pEr (posL e) (posF e) x.1 (y.1))++[((x.1:Int),(posL e).getD ((mems ((posF e).getD x.1 0)).getD y.1 0) 0,((((mems ((posF e).getD x.1 0)).getD y.1 0):Nat):Int))]:=(by rw [pEr_next hj,List.append_assoc]);rw [e,edc_snoc,List.length_append];have h:=hw.pick [0,1,2,3,4,5,6,7] (by decide) rfl rfl;exact h)
       ·have sz:=hg
        refine .block_normal ?_
        refine AK.then_ (hK41 _ ?_)
        refine AK.region ?_
        refine .v (.add rfl rfl (by omega)) ?_
        refine .mv rfl (.nil ?_)
        refine AK.then_ (hK38 _ _ ((y.1+1,z)) ⟨by dsimp only;omega,hg⟩ (by dsimp only;omega) (slr) (fun w hw=>hw))
      ·have hj:y.1=(mems ((posF e).getD x.1 0)).length:=by omega
       refine .exit (.then_exit (.then_exit (.block_exit (.block_normal ?_))))
       refine AK.then_ (hK35 _ ?_)
       refine AK.region ?_
       refine .v (.add rfl rfl (by omega)) ?_
       refine .mv rfl (.nil ?_)
       refine AK.then_ (hK32 _ _ ((x.1+1,y.2)) ⟨by dsimp only;omega,hg1.2⟩ (by dsimp only;omega) (slr) (fun w hw=>by rw [hj] at hw;exact hw.pick [0,1,2,3,4,5,6] (by decide) rfl rfl))
    ·have hxN:x.1=((ltsE e).length+1):=by omega
     have sxx:=hg0.2
     refine .exit (.then_exit (.then_exit (.block_exit ?_)))
     refine AK.then_ (hK30 _ ?_)
     refine .sr fun _ hK43=>?_
     refine .v (.fieldAddr fd45_4 rfl) (.v (.loadBox on43 rfl bsp rfl) ?_)
     refine AK.own' [box bx4 45 5 [.int .i64 0,.int .i64 0,uv 0,uv 0,.slice none 0 0],row av 3 1 ((ltsE e).length+1) ((posL e).map (Value.int .i64)),box bx8 92 2 [.int .i64 (((posV e).2.1:Nat):Int),mv0],row mv0 42 1 ((ltsE e).length+1) ((posF e).map uv),box bx9 94 3 [uv (posV e).1.1,uv (posV e).1.2.1,.bool (posV e).1.2.2],box bx10 45 5 [.int .i64 2,.int .i64 ((((ltsE e).length+1):Nat):Int),uv 1,uv (posT e),x.2],row x.2 98 3 (posE e).length (edc (posE e))] (fun w hw=>by rw [hxN] at hw;exact hw) ?_
     refine AK.callN 6 rfl co57 rfl (fun w Fs hw hh hfr hal=>s_esort w (Fs 6) x.2 (posE e) (by have:=pEs_len (posL e) (posF e) ((ltsE e).length+1);show (pEs _ _ _).length<_;omega) (hh.at_ 6 _ rfl)) trivial rfl ?_
     rintro r A o ⟨es1,rfl,rfl,hp1,hs1⟩
     refine .nt hK43 ?_
     refine .sr fun _ hK44=>?_
     refine .v (.loadBoxG ag45 rfl bsp rfl rfl) ?_
     refine AK.storeBox 0 (us:=[.int .i64 2,.int .i64 ((((ltsE e).length+1):Nat):Int),uv 1,uv (posT e),x.2]) (cs':=[.int .i64 2,.int .i64 ((((ltsE e).length+1):Nat):Int),uv 1,uv (posT e),x.2]) rfl sz45 rfl rfl rfl rfl oneP (leb rfl) rfl trivial ?_
     refine .as rfl (.nt hK44 (.ret ?_))
     refine AK.retG [.cell 4 45,.tmp 5] rfl (.cons (.cell ag45 rfl bsp rfl rfl) (.cons (.tmp rfl) (.nil))) (fun w hw=>⟨_,_,?_,rfl,Ret.of (hw.pick [6] (by decide) rfl rfl)⟩)
     exact ⟨0,psN e es1,x.2,.inr ⟨rfl,hb,es1,rfl,hp1,hs1⟩,hg0.2,rfl,rfl⟩
end Go.Proofs.YtbibnpdnmmgacaaGreatDoor
namespace Go.Sx
open Go.RowKit
theorem valid_mono {L M:Int} (h:L≤M) (hM:M≤6) {l:List UInt8} (hv:validW L l=true):validW M l=true:=by
 obtain ⟨⟨h1,h2,h3⟩,h4⟩:=validW_iff.1 hv
 exact validW_iff.2 ⟨⟨by omega,hM,h3⟩,fun k hk=>by have:=h4 k hk;omega⟩
theorem valid_ok {L:Int} {l:List UInt8} (hv:validW L l=true):l.all (okB L)=true:=by
 obtain ⟨_,h4⟩:=validW_iff.1 hv
 rw [List.all_eq_true]
 intro c hc
 obtain ⟨k,hk,rfl⟩:=List.getElem_of_mem hc
 have:=h4 k hk
 rw [List.getD_eq_getElem?_getD,List.getElem?_eq_getElem hk] at this
 have h1:97≤(l[k]).toNat∧((l[k]).toNat:Int) - 97<L:=this
 exact decide_eq_true (by omega)
theorem accV_fin {d:Dfa} (hv:VD d) {l:List UInt8} (hw:validW d.L l=true):AccV d l=finQ d (runI d d.s l):=by
 have hs:=hv.s
 have hr:RunV d d.s l=runI d d.s l:=if_pos ⟨(errV_iff _).2 hv,by omega,hw⟩
 have hi:=runI_inr hv l d.s hs (valid_ok hw)
 unfold AccV
 rw [hr,if_pos hi.1];rfl
theorem mem_dfa {e:Ex} {d:Dfa} {wd:List UInt8} {M:Bool} (hv:VD d) (hL:d.L=2) (hlg:∀ l:List UInt8,l.all (okB 2)=true→(finQ d (runI d d.s l)=true↔LE e l)) (hw:validW 2 wd=true) (hM:M=true↔LE e wd):AccV d wd=M∧AccV (minD d) wd=M:=by
 have hok:=valid_ok hw
 have h1:AccV d wd=M:=by
  rw [accV_fin hv (by rw [hL];exact hw),Bool.eq_iff_iff,hlg wd hok,hM]
 refine ⟨h1,?_⟩
 have hm:=min_vd hv
 rw [accV_fin hm (by show validW d.L wd=true;rw [hL];exact hw),min_lng hv wd (by show wd.all (okB d.L)=true;rw [hL];exact hok),← accV_fin hv (by rw [hL];exact hw)]
 exact h1
theorem mem_null {e x:Ex} {wd:List UInt8} {M:Bool} (hv:validE x 6=0) (h:∀ l,LE x l↔LE e (wd++l)) (hM:M=true↔LE e wd):hasU x=M:=by
 rw [Bool.eq_iff_iff,hasU_L 6 x (valid_sz hv).2.1,h,List.append_nil,hM]
theorem mem_nfa {e:Ex} {n:Nfa} {wd:List UInt8} {M:Bool} (hv:VN n) (hL:n.L=2) (h:∀ l,AccP n l↔LE e l) (hw:validW 2 wd=true) (hM:M=true↔LE e wd):AccN n wd=M:=by
 have hw':validW n.L wd=true:=by rw [hL];exact hw
 unfold AccN
 rw [if_pos ⟨errN_iff.2 hv,hw'⟩,Bool.eq_iff_iff,accP_iff hv (by rw [hL];exact valid_ok hw),h,hM]
end Go.Sx
namespace Go.Proofs.YtbibnpdnmmgacaaGreatDoor
open Go.Sx Go.RowKit
theorem acc_next {d:Dfa} (hv:VD d) {i:Nat} (hi:i<(TSt d).length) :
  i<(exI (stepQ d) d.L.toNat d.s 0 i).length∧(TrimV d).nx.getD i []=(List.range d.L.toNat).map (fun x=>((posN (TSt d) (stepQ d ((exI (stepQ d) d.L.toNat d.s 0 i).getD i 0) x):Nat):Int)):=by
 obtain ⟨h1,h2,h3⟩:=tst_fix hv
 refine ⟨exI_all h1 i hi,?_⟩
 have e:=(exI_at h1 hi).1
 rw [h2] at e
 rw [show TrimV d=trimD d from if_pos hv]
 unfold trimD
 rw [← e]
 simp [List.getD_eq_getElem?_getD,hi]
end Go.Proofs.YtbibnpdnmmgacaaGreatDoor
namespace Go.Proofs.YtbibnpdnmmgacaaGreatDoor
open Go.Sx Go.RowKit
end Go.Proofs.YtbibnpdnmmgacaaGreatDoor
namespace Go.Proofs.YtbibnpdnmmgacaaGreatDoor
open Go.Sx Go.RowKit
end Go.Proofs.YtbibnpdnmmgacaaGreatDoor
namespace Go.Proofs.YtbibnpdnmmgacaaGreatDoor
open Go.Sx Go.RowKit
theorem mem_pos {e:Ex} {ep:Int} {n:Nfa} {wd:List UInt8} {M:Bool} (h:(ep=4∧hbE e=true∧n=nilN)∨(ep=0∧hbE e=false∧∃ es:List Edg,n=psN e es∧es.Perm (posE e)∧es.Pairwise fun a b=>bef b a=false)) (h0:ep=0) (hav:validE e 2=0∧szE e≤10) (hw:validW 2 wd=true) (hM:M=true↔LE e wd):AccN n wd=M:=by
 obtain ⟨_,hb,es,rfl,hp,hs⟩:=h.resolve_left (fun h=>by have:=h.1;omega)
 have hz:=lts_sz e
 obtain ⟨hv,ha⟩:=pos_vn hp hs (valid_sz hav.1).2.1 hb (by omega)
 exact mem_nfa hv rfl ha hw hM
set_option maxHeartbeats 1000000 in
theorem s_naccepts (w:World) (v:Value) (n:Nfa) (h:RdN (fun _=>False) w v n) (l:List UInt8) (hm:l.length≤9223372036854775807) (hT:TbA w):CallS Tryz.prog 18 [v,sv l] w (fun r o=>r = .bool (AccN n l)∧o=[]):=by
 have h0:=h
 obtain ⟨vE,rfl,hE⟩:=h
 have sE:=Rd.sl hE
 have hme:=Rd.le hE
 refine spec_of Tryz.func18 rfl (leb rfl) ?_
 refine .sr fun _ hK1=>?_
 refine AK.box_ (E:=45) (cs:=[.int .i64 n.L,.int .i64 n.S,uv n.st,uv n.fi,vE]) rfl rfl rfl trivial rfl (fun bx2=>?_)
 refine .as rfl (.nt hK1 ?_)
 refine .seq fun _ hK2=>?_
 refine .sr fun _ hK3=>?_
 refine .v (.loadBoxG ag45 rfl bsp rfl rfl) ?_
 refine AK.call co59 rfl (fun w hw=>s_nvalidate w _ n (h0.at hw)) trivial rfl ?_
 rintro r o ⟨rfl,rfl⟩
 refine .v (.neq rfl rfl) (.mv rfl ?_)
 refine AK.splitB (g:=11) rfl (fun hg_1_3=>?_) (fun hg_1_3=>?_)
 ·have hg_1_3':=hg_1_3
  try simp only [bs] at hg_1_3'
  refine AK.pass rfl rfl (hg_1_3) rfl ?_
  refine AK.pass rfl rfl (hg_1_3) rfl ?_
  refine AK.pass rfl rfl (hg_1_3) rfl ?_
  refine AK.pass rfl rfl (hg_1_3) rfl ?_
  refine AK.pass rfl rfl (hg_1_3) rfl ?_
  refine .v (.pickT rfl (hg_1_3) rfl) (.nt hK3 ?_)
  refine AK.cond_t rfl (rfl) ?_
  refine .sr fun _ hK4=>?_
  refine .as rfl (.nt hK4 (.ret (.then_ret ?_)))
  refine AK.ret1 rfl rfl (fun w hw=>⟨_,_,?_,rfl,Ret.of (hw.pick [] (by decide) rfl rfl)⟩)
  refine ⟨congrArg Value.bool ?_,rfl⟩
  unfold AccN;rw [if_neg]
  rintro ⟨h1,h2⟩
  first | omega | (simp_all;done) | (simp_all;omega)
 ·have hg_1_3':=hg_1_3
  try simp only [bs] at hg_1_3'
  refine AK.val _ (Yl.move rfl) ⟨_,rfl,gB hg_1_3⟩ rfl ?_
  refine AK.val _ (Yl.fieldAddr fd45_0 rfl) ⟨_,rfl,gB hg_1_3⟩ rfl ?_
  refine AK.val _ (Yl.loadBox on3 rfl bsp rfl) ⟨_,rfl,gB hg_1_3⟩ rfl ?_
  refine AK.call co38 rfl (fun w hw=>s_wvalid w l n.L hm) ⟨_,rfl,gB hg_1_3⟩ rfl ?_
  rintro r o ⟨rfl,rfl⟩
  refine AK.val _ (Yl.not rfl) ⟨_,rfl,gB hg_1_3⟩ rfl ?_
  refine .v (.pickF rfl (hg_1_3) rfl) (.nt hK3 ?_)
  refine AK.condB rfl (fun hc0=>?_) (fun hc0=>?_)
  ·refine .sr fun _ hK5=>?_
   refine .as rfl (.nt hK5 (.ret (.then_ret ?_)))
   refine AK.ret1 rfl rfl (fun w hw=>⟨_,_,?_,rfl,Ret.of (hw.pick [] (by decide) rfl rfl)⟩)
   refine ⟨congrArg Value.bool ?_,rfl⟩
   unfold AccN;rw [if_neg]
   rintro ⟨h1,h2⟩
   first | omega | (simp_all;done) | (simp_all;omega)
  ·have hE:errN n=0:=(by first | omega | (simp_all;done) | (simp_all;omega))
   have hv:VN n:=errN_iff.1 hE
   have hwv:validW n.L l=true:=(by simpa using hc0)
   have hok:=(validW_iff.1 hwv).2
   have hL:=hv.L
   refine .skip ?_
   refine AK.then_ (hK2 _ ?_)
   refine .seq fun _ hK6=>?_
   try (conv=>enter [2,2];simp only [nrm])
   refine AK.held 6 mixed ?_
   refine HeldK.first 0 (fuel:=5) (listed':=(lb 6 1)) _ rfl krf krf rfl (Yl.loadBoxG ag45 rfl bsp rfl rfl) trivial rfl ?_
   refine HeldK.first 2 (fuel:=4) (listed':=(lb 6 5)) _ rfl krf krf rfl (Yl.fieldAddr fd45_2 rfl) trivial rfl ?_
   refine HeldK.first 3 (fuel:=3) (listed':=(lb 6 13)) _ rfl krf krf rfl (Yl.loadBox on42 rfl bsp rfl) trivial rfl ?_
   refine HeldK.one 1 (fuel:=2) (listed':=(lb 6 15)) krf rfl krf ?_
   refine AK.call co60 rfl (fun w hw=>s_successors w _ n (h0.at hw) hv) trivial rfl ?_
   rintro sv1 o ⟨ws,hwl,ssv,rfl⟩
   refine .nil ?_
   try (conv=>enter [2,2];simp only [nrm])
   refine HeldK.back Go.Sx.hle ?_
   refine HeldK.first 4 (fuel:=1) (listed':=(lb 6 31)) _ rfl krf krf rfl (Yl.assign rfl) trivial rfl ?_
   refine HeldK.first 5 (fuel:=0) (listed':=(lb 6 63)) _ rfl krf krf rfl (Yl.assign rfl) trivial rfl ?_
   refine HeldK.done krf ?_
   refine AK.then_ (hK6 _ ?_)
   refine .seq fun _ hK7=>?_
   refine .sr fun _ hK8=>?_
   refine .mv rfl (.v (.lenS un9 rfl) (.mv rfl (.nt hK8 (.block ?_))))
   refine AK.loopK (X:=Nat) [(1,_),(2,_),(5,_),(23,_)] (fun k=>[(6,uv (foldW (fS n) n.st (l.take k))),(24,.int .i64 (k:Int))]) (fun k=>[box bx2 45 5 [.int .i64 n.L,.int .i64 n.S,uv n.st,uv n.fi,vE],row sv1 64 1 n.L.toNat ws,bigA (matG uv 42 ws (mtK n n.es.length))]) (fun k=>k≤l.length) (fun k=>l.length - k) (0) slr ?_ ?_ ?_ ?_
   ·exact Nat.zero_le _
   ·exact slr
   ·exact fun w hw=>hw
   ·intro k hg0 _ hK9
    refine .sr fun _ hK10=>?_
    refine .v (.lss rfl rfl) (.nt hK10 ?_)
    refine .seq fun _ hK11=>?_
    refine AK.condD rfl (fun hc1=>?_) (fun hc1=>?_)
    ·have hok1:=hok k (by omega)
     have hc8:=UInt8.toNat_lt (l.getD k 0)
     obtain ⟨a,ha⟩:∃ a:Nat,((l.getD k 0).toNat:Int) - 97=(a:Int):=⟨_,(Int.toNat_of_nonneg (by omega)).symm⟩
     have hx:a<n.L.toNat:=(by omega)
     have hxa:(((l.getD k 0).toNat:Int) - 97).toNat=a:=(by omega)
     have hro:=rows_ok hv (a:Int)
     refine .skip ?_
     refine AK.then_ (hK11 _ ?_)
     refine .seq fun _ hK12=>?_
     refine .block ?_
     refine .sr fun _ hK13=>?_
     refine .mv rfl (.as rfl (.nt hK13 ?_))
     refine AK.region ?_
     refine .mv rfl (.mv rfl (.mv rfl ?_))
     first | refine .v (.idxSN un9 rfl rfl (by omega)) ?_ | refine .v (.idxS un9 rfl rfl (by omega)) ?_
     refine .v (.subU8 rfl rfl (by omega)) ?_
     refine .v (.idxK (k:=(a:Int)) sl102 rfl (by rw [← ha];rfl) rdp (by decide) (by omega)) ?_
     refine AK.val (ws.getD a undef) (Yl.loadV on64 rfl rdp (by omega)) trivial rfl ?_
     refine .mv rfl ?_
     refine AK.call co61 rfl (fun w hw=>s_image w (ws.getD a undef) (rowsN n (a:Int)) (by have h:=RdL.big (v:=sv1) 2 a hw rfl (by rw [mtK_len];exact hwl) (by rw [mtK_len];exact hx);rw [mtK_all hx] at h;exact h) hro.1 hro.2 (foldW (fS n) n.st (l.take k)) (hT.at hw)) trivial rfl ?_
     rintro r o ⟨rfl,rfl⟩
     refine .as rfl (.nil (.block_normal ?_))
     refine AK.then_ (hK12 _ ?_)
     refine AK.region ?_
     refine .v (.add rfl rfl (by omega)) ?_
     refine .mv rfl (.nil ?_)
     refine AK.then_ (hK9 _ _ (k+1) (by omega) (by omega) (.cons ((by rw [foldW_take _ _ _ _ (by omega),hxa,img_step hv];rfl)) (slr)) (fun w hw=>hw))
    ·refine .exit (.then_exit (.then_exit (.block_exit ?_)))
     refine AK.then_ (hK7 _ ?_)
     refine .sr fun _ hK14=>?_
     refine .mv rfl (.v (.fieldAddr fd45_3 rfl) (.v (.loadBox on42 rfl bsp rfl) (.v (.andU rfl rfl) (.v (.neqU (b:=0) rfl rfl) (.as rfl (.nt hK14 (.ret ?_)))))))
     refine AK.ret1 rfl rfl (fun w hw=>⟨_,_,?_,rfl,Ret.of (hw.pick [] (by decide) rfl rfl)⟩)
     refine ⟨congrArg Value.bool ?_,rfl⟩
     unfold AccN;rw [if_pos ⟨hE,hwv⟩,show k=l.length by omega,List.take_length];rfl
set_option maxHeartbeats 8000000 in
theorem l_membership (w:World) (e:Ex) (s:Value) (h:RdK (cellR (fun _=>False) w) s e.kids) (wd:List UInt8) (hwl:wd.length≤9223372036854775807) (hT:TbA w):CallS Tryz.prog 3 [.agg #[.int .i64 e.op,.int .i64 e.lt,s],sv wd] w (fun r o=>r = .bool true∧o=[]):=by
 have ss:=h.sl
 have hB:=baseOk w
 refine spec_of Tryz.func3 rfl (leb rfl) ?_
 refine .sr fun _ hK1=>?_
 refine AK.box_ (E:=24) (cs:=[.int .i64 e.op,.int .i64 e.lt,s]) rfl rfl rfl trivial rfl (fun bx2=>?_)
 refine .as rfl (.nt hK1 ?_)
 refine .seq fun _ hK2=>?_
 refine .sr fun _ hK3=>?_
 refine .v (.loadBoxG ag24 rfl bsp rfl rfl) ?_
 refine AK.call co7 rfl (fun w hw=>s_little w e s 10 (by decide) (h.at hw)) trivial rfl ?_
 rintro r o ⟨⟨b0,rfl,hb0⟩,rfl⟩
 refine .v (.not rfl) (.mv rfl ?_)
 refine AK.splitB (g:=15) rfl (fun hg_1_3=>?_) (fun hg_1_3=>?_)
 ·have hg_1_3':=hg_1_3
  try simp only [bs] at hg_1_3'
  refine AK.pass rfl rfl (hg_1_3) rfl ?_
  refine AK.pass rfl rfl (hg_1_3) rfl ?_
  refine AK.pass rfl rfl (hg_1_3) rfl ?_
  refine .v (.pickT rfl (hg_1_3) rfl) (.mv rfl ?_)
  refine AK.pass rfl rfl rfl rfl ?_
  refine AK.pass rfl rfl rfl rfl ?_
  refine AK.pass rfl rfl rfl rfl ?_
  refine .v (.pickT rfl (rfl) rfl) (.nt hK3 ?_)
  refine AK.cond_t rfl (rfl) ?_
  refine .sr fun _ hK4=>?_
  refine AK.call co9 rfl (fun w hw=>s_awake w (hT.at hw)) trivial rfl ?_
  rintro r o ⟨rfl,rfl⟩
  refine .as rfl (.nt hK4 (.ret (.then_ret ?_)))
  refine AK.ret1 rfl rfl (fun w hw=>⟨_,_,?_,rfl,Ret.of (hw.pick [] (by decide) rfl rfl)⟩)
  exact ⟨rfl,rfl⟩
 ·have hg_1_3':=hg_1_3
  try simp only [bs] at hg_1_3'
  refine AK.val _ (Yl.move rfl) ⟨_,rfl,gB hg_1_3⟩ rfl ?_
  refine AK.val _ (Yl.lenS un9 rfl) ⟨_,rfl,gB hg_1_3⟩ rfl ?_
  refine AK.val _ (Yl.gtr rfl rfl) ⟨_,rfl,gB hg_1_3⟩ rfl ?_
  refine .v (.pickF rfl (hg_1_3) rfl) (.mv rfl ?_)
  refine AK.splitB (g:=20) rfl (fun hg_1_8=>?_) (fun hg_1_8=>?_)
  ·have hg_1_8':=hg_1_8
   try simp only [bs] at hg_1_8'
   refine AK.pass rfl rfl (hg_1_8) rfl ?_
   refine AK.pass rfl rfl (hg_1_8) rfl ?_
   refine AK.pass rfl rfl (hg_1_8) rfl ?_
   refine .v (.pickT rfl (hg_1_8) rfl) (.nt hK3 ?_)
   refine AK.cond_t rfl (rfl) ?_
   refine .sr fun _ hK5=>?_
   refine AK.call co9 rfl (fun w hw=>s_awake w (hT.at hw)) trivial rfl ?_
   rintro r o ⟨rfl,rfl⟩
   refine .as rfl (.nt hK5 (.ret (.then_ret ?_)))
   refine AK.ret1 rfl rfl (fun w hw=>⟨_,_,?_,rfl,Ret.of (hw.pick [] (by decide) rfl rfl)⟩)
   exact ⟨rfl,rfl⟩
  ·have hg_1_8':=hg_1_8
   try simp only [bs] at hg_1_8'
   refine AK.val _ (Yl.move rfl) ⟨_,rfl,gB hg_1_8⟩ rfl ?_
   refine AK.call co8 rfl (fun w hw=>s_refwvalid w wd 2 hwl) ⟨_,rfl,gB hg_1_8⟩ rfl ?_
   rintro r o ⟨rfl,rfl⟩
   refine AK.val _ (Yl.not rfl) ⟨_,rfl,gB hg_1_8⟩ rfl ?_
   refine .v (.pickF rfl (hg_1_8) rfl) (.nt hK3 ?_)
   refine AK.condB rfl (fun hc0=>?_) (fun hc0=>?_)
   ·refine .sr fun _ hK6=>?_
    refine AK.call co9 rfl (fun w hw=>s_awake w (hT.at hw)) trivial rfl ?_
    rintro r o ⟨rfl,rfl⟩
    refine .as rfl (.nt hK6 (.ret (.then_ret ?_)))
    refine AK.ret1 rfl rfl (fun w hw=>⟨_,_,?_,rfl,Ret.of (hw.pick [] (by decide) rfl rfl)⟩)
    exact ⟨rfl,rfl⟩
   ·have hav:=hb0 (by simpa using hg_1_3)
    have hw7:wd.length≤7:=by have:=hg_1_8;simp at this;omega
    have hw2:validW 2 wd=true:=by simpa using hc0
    have hv6:=valid_mono (by decide:(2:Int)≤6) (by decide) hw2
    have he6:=val6_of hav.1 (by omega)
    obtain ⟨d,er,hbe,hok⟩:=build_ok hav.1 (by omega)
    have hM:=match_iff (e:=e) (wd:=wd) (by omega)
    refine .skip ?_
    refine AK.then_ (hK2 _ ?_)
    refine .sr fun _ hK7=>?_
    refine .v (.loadBoxG ag24 rfl bsp rfl rfl) (.mv rfl ?_)
    refine AK.call co10 rfl (fun w hw=>s_matchg w e s (h.at hw) wd (by omega) hv6 he6 (hT.at hw)) trivial rfl ?_
    rintro r o ⟨rfl,rfl⟩
    refine .as rfl (.nt hK7 ?_)
    refine .sr fun _ hK8=>?_
    refine .v (.loadBoxG ag24 rfl bsp rfl rfl) ?_
    refine AK.call co11 rfl (fun w hw=>s_buildS w e s (h.at hw) 2 (d,er) hbe) trivial rfl ?_
    rintro r o ⟨vF,vN,rs,rfl,hrs,svF,svN,rfl⟩
    conv=>enter [2,2];dsimp only [dfaO,List.set_cons_zero,List.set_cons_succ,List.cons_append,List.nil_append]
    refine .mv rfl (.v (.extract rfl rfl) (.v (.extract rfl rfl) ?_))
    refine AK.alloc el32 rfl rfl trivial rfl (fun bx6=>?_)
    refine AK.storeBox 4 (us:=[.int .i64 d.L,.int .i64 d.s,vF,vN]) (cs':=[.int .i64 d.L,.int .i64 d.s,vF,vN]) rfl sz32 rfl rfl rfl rfl oneP (leb rfl) rfl trivial ?_
    refine .as rfl (.nt hK8 ?_)
    refine .sr fun _ hK9=>?_
    refine .v (.loadBoxG ag24 rfl bsp rfl rfl) (.mv rfl ?_)
    refine AK.newForest (baseB w) ?_
    refine AK.forestArg 5 rfl h ?_
    refine AK.callN 5 rfl co12 rfl (fun w Fs hw hh hfr hal=>s_byword e wd he6 (by omega) hv6 w (Fs 5) _ _ (hB.later hfr hal 5) (hh.at_ 5 _ rfl) s List.mem_cons_self) trivial rfl ?_
    rintro r A o ⟨p,sp,l2,hby,rfl,ssp,rfl,hs2,hm2,rfl⟩
    conv=>enter [2,2];dsimp only [dfaO,List.set_cons_zero,List.set_cons_succ,List.cons_append,List.nil_append]
    refine .mv rfl (.v (.extract rfl rfl) (.v (.extract rfl rfl) ?_))
    refine AK.alloc el24 rfl rfl trivial rfl (fun bx8=>?_)
    refine AK.storeBox 6 (us:=[.int .i64 p.1.op,.int .i64 p.1.lt,sp]) (cs':=[.int .i64 p.1.op,.int .i64 p.1.lt,sp]) rfl sz24 rfl rfl rfl rfl oneP (leb rfl) rfl trivial ?_
    refine .as rfl (.nt hK9 ?_)
    refine .seq fun _ hK10=>?_
    refine .sr fun _ hK11=>?_
    refine .mv rfl (.v (.neq rfl rfl) (.mv rfl ?_))
    refine AK.splitB (g:=42) rfl (fun hg_6_2=>?_) (fun hg_6_2=>?_)
    ·have hg_6_2':=hg_6_2
     try simp only [bs] at hg_6_2'
     refine AK.pass rfl rfl (hg_6_2) rfl ?_
     refine AK.pass rfl rfl (hg_6_2) rfl ?_
     refine .v (.pickT rfl (hg_6_2) rfl) (.nt hK11 ?_)
     refine AK.cond_t rfl (rfl) ?_
     refine .sr fun _ hK12=>?_
     refine .mv rfl ?_
     refine AK.call co13 rfl (fun w hw=>s_lim w er (by rcases hok with h | h;exact .inr h.1;exact .inl h.1)) trivial rfl ?_
     rintro r o ⟨rfl,rfl⟩
     refine .mv rfl ?_
     refine AK.knownT (g:=48) rfl (rfl) (fun hg_7_2=>?_)
     refine AK.val _ (Yl.move rfl) ⟨_,rfl,gB hg_7_2⟩ rfl ?_
     refine AK.call co13 rfl (fun w hw=>s_lim w p.2 (by rcases hby with h | h;exact .inr h;exact .inl h.1)) ⟨_,rfl,gB hg_7_2⟩ rfl ?_
     rintro r o ⟨rfl,rfl⟩
     refine .v (.pickT rfl (hg_7_2) rfl) (.mv rfl ?_)
     refine AK.knownT (g:=52) rfl (rfl) (fun hg_7_6=>?_)
     refine AK.call co9 rfl (fun w hw=>s_awake w (hT.at hw)) ⟨_,rfl,gB hg_7_6⟩ rfl ?_
     rintro r o ⟨rfl,rfl⟩
     refine .v (.pickT rfl (hg_7_6) rfl) (.as rfl (.nt hK12 (.ret (.then_ret ?_))))
     refine AK.ret1 rfl rfl (fun w hw=>⟨_,_,?_,rfl,Ret.of (hw.pick [] (by decide) rfl rfl)⟩)
     exact ⟨rfl,rfl⟩
    ·have hg_6_2':=hg_6_2
     try simp only [bs] at hg_6_2'
     refine AK.val _ (Yl.move rfl) ⟨_,rfl,gB hg_6_2⟩ rfl ?_
     refine AK.val _ (Yl.neq rfl rfl) ⟨_,rfl,gB hg_6_2⟩ rfl ?_
     refine .v (.pickF rfl (hg_6_2) rfl) (.nt hK11 ?_)
     refine AK.condNe rfl (fun hc1=>?_) (fun hc1=>?_)
     ·refine .sr fun _ hK13=>?_
      refine .mv rfl ?_
      refine AK.call co13 rfl (fun w hw=>s_lim w er (by rcases hok with h | h;exact .inr h.1;exact .inl h.1)) trivial rfl ?_
      rintro r o ⟨rfl,rfl⟩
      refine .mv rfl ?_
      refine AK.knownT (g:=48) rfl (rfl) (fun hg_7_2=>?_)
      refine AK.val _ (Yl.move rfl) ⟨_,rfl,gB hg_7_2⟩ rfl ?_
      refine AK.call co13 rfl (fun w hw=>s_lim w p.2 (by rcases hby with h | h;exact .inr h;exact .inl h.1)) ⟨_,rfl,gB hg_7_2⟩ rfl ?_
      rintro r o ⟨rfl,rfl⟩
      refine .v (.pickT rfl (hg_7_2) rfl) (.mv rfl ?_)
      refine AK.knownT (g:=52) rfl (rfl) (fun hg_7_6=>?_)
      refine AK.call co9 rfl (fun w hw=>s_awake w (hT.at hw)) ⟨_,rfl,gB hg_7_6⟩ rfl ?_
      rintro r o ⟨rfl,rfl⟩
      refine .v (.pickT rfl (hg_7_6) rfl) (.as rfl (.nt hK13 (.ret (.then_ret ?_))))
      refine AK.ret1 rfl rfl (fun w hw=>⟨_,_,?_,rfl,Ret.of (hw.pick [] (by decide) rfl rfl)⟩)
      exact ⟨rfl,rfl⟩
     ·have her:er=0:=by simpa using hg_6_2
      have hp0:p.2=0:=by simpa using hc1
      obtain ⟨_,hvd,hdL,hlg⟩:=hok.resolve_left (fun h=>by have:=h.1;omega)
      obtain ⟨_,hvp,hlp⟩:=hby.resolve_left (fun h=>by omega)
      obtain ⟨hA1,hA2⟩:=mem_dfa hvd hdL hlg hw2 hM
      have hA3:=mem_null hvp hlp hM
      refine .skip ?_
      refine AK.then_ (hK10 _ ?_)
      refine .seq fun _ hK14=>?_
      refine .sr fun _ hK15=>?_
      refine .v (.loadBoxG ag32 rfl bsp rfl rfl) (.mv rfl ?_)
      refine AK.call co14 rfl (fun w hw=>s_acc w _ d (RdD.own 1 hw hrs rfl rfl rfl) wd hwl) trivial rfl ?_
      rintro r o ⟨rfl,rfl⟩
      refine .mv rfl (.v (.neqB bo4 rfl rfl) (.mv rfl ?_))
      refine AK.knownF (g:=60) rfl ((by rw [hA1];simp)) (fun hg_8_5=>?_)
      refine AK.val _ (Yl.loadBoxG ag32 rfl bsp rfl rfl) ⟨_,rfl,gB hg_8_5⟩ rfl ?_
      refine AK.call co15 rfl (fun w hw=>s_min w _ d (RdD.own 1 hw hrs rfl rfl rfl)) ⟨_,rfl,gB hg_8_5⟩ rfl ?_
      rintro r o ⟨mF,mN,mrs,rfl,hmrs,smF,smN,rfl⟩
      rw [show MinV d=minD d from if_pos hvd] at hmrs ⊢
      conv=>enter [2,2];dsimp only [dfaO,List.set_cons_zero,List.set_cons_succ,List.cons_append,List.nil_append]
      refine AK.val _ (Yl.move rfl) ⟨_,rfl,gB hg_8_5⟩ rfl ?_
      refine AK.call co14 rfl (fun w hw=>s_acc w _ (minD d) (RdD.own 7 hw hmrs rfl rfl rfl) wd hwl) ⟨_,rfl,gB hg_8_5⟩ rfl ?_
      rintro r o ⟨rfl,rfl⟩
      refine AK.val _ (Yl.move rfl) ⟨_,rfl,gB hg_8_5⟩ rfl ?_
      refine AK.val _ (Yl.neqB bo4 rfl rfl) ⟨_,rfl,gB hg_8_5⟩ rfl ?_
      refine .v (.pickF rfl (hg_8_5) rfl) (.mv rfl ?_)
      refine AK.knownF (g:=68) rfl ((by rw [hA2];simp)) (fun hg_8_13=>?_)
      refine AK.val _ (Yl.loadBoxG ag24 rfl bsp rfl rfl) ⟨_,rfl,gB hg_8_13⟩ rfl ?_
      refine AK.call co16 rfl (fun w hw=>s_nullable w p.1 sp (hw.kidR hB 5 rfl hm2) hvp) ⟨_,rfl,gB hg_8_13⟩ rfl ?_
      rintro r o ⟨rfl,rfl⟩
      refine AK.val _ (Yl.move rfl) ⟨_,rfl,gB hg_8_13⟩ rfl ?_
      refine AK.val _ (Yl.neqB bo4 rfl rfl) ⟨_,rfl,gB hg_8_13⟩ rfl ?_
      refine .v (.pickF rfl (hg_8_13) rfl) (.nt hK15 ?_)
      refine AK.cond_f rfl ((by rw [hA3];simp)) ?_
      refine .skip ?_
      refine AK.then_ (hK14 _ ?_)
      refine .sr fun _ hK16=>?_
      refine .v (.loadBoxG ag24 rfl bsp rfl rfl) ?_
      refine AK.call co17 rfl (fun w hw=>s_position w e s (h.at hw) hav.1 hav.2 (hT.at hw)) trivial rfl ?_
      rintro r o ⟨ep,n,vE,hpos,svE,rfl,rfl⟩
      conv=>enter [2,2];dsimp only [dfaO,List.set_cons_zero,List.set_cons_succ,List.cons_append,List.nil_append]
      refine .mv rfl (.v (.extract rfl rfl) (.v (.extract rfl rfl) ?_))
      refine AK.alloc el45 rfl rfl trivial rfl (fun bx10=>?_)
      refine AK.storeBox 11 (us:=[.int .i64 n.L,.int .i64 n.S,uv n.st,uv n.fi,vE]) (cs':=[.int .i64 n.L,.int .i64 n.S,uv n.st,uv n.fi,vE]) rfl sz45 rfl rfl rfl rfl oneP (leb rfl) rfl trivial ?_
      refine .as rfl (.nt hK16 ?_)
      refine .sr fun _ hK17=>?_
      refine .mv rfl (.v (.neq rfl rfl) (.mv rfl ?_))
      refine AK.splitB (g:=81) rfl (fun hg_11_2=>?_) (fun hg_11_2=>?_)
      ·have hg_11_2':=hg_11_2
       try simp only [bs] at hg_11_2'
       refine AK.pass rfl rfl (hg_11_2) rfl ?_
       refine AK.pass rfl rfl (hg_11_2) rfl ?_
       refine AK.pass rfl rfl (hg_11_2) rfl ?_
       refine AK.pass rfl rfl (hg_11_2) rfl ?_
       refine AK.pass rfl rfl (hg_11_2) rfl ?_
       refine .v (.pickT rfl (hg_11_2) rfl) (.mv rfl ?_)
       refine AK.call co9 rfl (fun w hw=>s_awake w (hT.at hw)) ⟨_,rfl,rfl⟩ rfl ?_
       rintro r o ⟨rfl,rfl⟩
       refine .v (.pickT rfl (rfl) rfl) (.as rfl (.nt hK17 (.ret ?_)))
       refine AK.ret1 rfl rfl (fun w hw=>⟨_,_,?_,rfl,Ret.of (hw.pick [] (by decide) rfl rfl)⟩)
       exact ⟨rfl,rfl⟩
      ·have hg_11_2':=hg_11_2
       try simp only [bs] at hg_11_2'
       refine AK.val _ (Yl.loadBoxG ag45 rfl bsp rfl rfl) ⟨_,rfl,gB hg_11_2⟩ rfl ?_
       refine AK.val _ (Yl.move rfl) ⟨_,rfl,gB hg_11_2⟩ rfl ?_
       refine AK.call co18 rfl (fun w hw=>s_naccepts w _ n (RdN.own 10 hw rfl) wd hwl (hT.at hw)) ⟨_,rfl,gB hg_11_2⟩ rfl ?_
       rintro r o ⟨rfl,rfl⟩
       refine AK.val _ (Yl.move rfl) ⟨_,rfl,gB hg_11_2⟩ rfl ?_
       refine AK.val _ (Yl.eqlB bo4 rfl rfl) ⟨_,rfl,gB hg_11_2⟩ rfl ?_
       refine .v (.pickF rfl (hg_11_2) rfl) (.mv rfl ?_)
       refine AK.knownT (g:=88) rfl ((by first | rfl | (have hA4:=mem_pos hpos (by simpa using hg_11_2) hav hw2 hM;rw [hA4];simp))) (fun hg_11_9=>?_)
       refine AK.call co9 rfl (fun w hw=>s_awake w (hT.at hw)) ⟨_,rfl,gB hg_11_9⟩ rfl ?_
       rintro r o ⟨rfl,rfl⟩
       refine .v (.pickT rfl (hg_11_9) rfl) (.as rfl (.nt hK17 (.ret ?_)))
       refine AK.ret1 rfl rfl (fun w hw=>⟨_,_,?_,rfl,Ret.of (hw.pick [] (by decide) rfl rfl)⟩)
       exact ⟨rfl,rfl⟩
end Go.Proofs.YtbibnpdnmmgacaaGreatDoor
namespace Go.Sx
open Go.ChangeShapes Go.WideShapes Go.ChangeAt Go.RowKit
section
variable {H : Type} {enc : TypeId × Value → H} {P : Program} {W : World}
def exTB (P:Program) (t:TypeId):Bool:=match P.underlying t with
 | some (.struct fs)=>match fs[0]?,fs[1]?,fs[2]? with
  | some a,some b,some c=>
   (a.offset == 0 && b.offset == 1 && c.offset == 2) && (P.cellsOf a.type == 1 && P.cellsOf b.type == 1 && P.cellsOf c.type == 1) &&
   (match P.underlying a.type,P.underlying b.type with | some (.int .i64),some (.int .i64)=>true | _,_=>false) &&
   (match P.underlying c.type with | some (.slice q)=>q == t | _=>false) &&
   (P.cellsOf t == 3)
  | _,_,_=>false
 | _=>false
theorem op_ex {t:TypeId} (hB:exTB P t=true):∀ (fuel:Nat) (cs:List Value) (x:DataW H × List MemPlace),DataW.trod enc P W 0 (fun _=>true) true fuel t cs=some x →
  ∃ (e:Ex) (s:Value),cs=[.int .i64 e.op,.int .i64 e.lt,s]∧RdK (cellR (fun _=>False) W) s e.kids:=by
 unfold exTB at hB
 split at hB
 case h_2=>cases hB
 rename_i fs hu
 split at hB
 case h_2=>cases hB
 rename_i a b c ha hb hc
 simp only [Bool.and_eq_true,beq_iff_eq] at hB
 obtain ⟨⟨⟨⟨⟨⟨oa,ob⟩,oc⟩,⟨⟨ca,cb⟩,cc⟩⟩,hI⟩,hS⟩,ht3⟩:=hB
 split at hI
 case h_2=>cases hI
 rename_i uA uB
 split at hS
 case h_2=>cases hS
 rename_i q uq
 obtain rfl:q=t:=by simpa using hS
 intro fuel
 induction fuel using Nat.strongRecOn with
 | _ fuel ih=>
 intro cs x h
 obtain ⟨xs,n,hfn,_,hl,_,hf⟩:=DataW.trod_struct hu h
 have fa:=hf 0 a ha
 have fb:=hf 1 b hb
 have fc:=hf 2 c hc
 have some_of:∀ (i:Nat) (g:Field),fs[i]? = some g→∃ y,xs[i]? = some y:=fun i g hg=>by
  have:i<xs.length:=by
   have h1:=(Array.getElem?_eq_some_iff.1 hg).1
   omega
  exact ⟨xs[i],List.getElem?_eq_getElem this⟩
 obtain ⟨ya,ea⟩:=some_of 0 a ha
 obtain ⟨yb,eb⟩:=some_of 1 b hb
 obtain ⟨yc,ec⟩:=some_of 2 c hc
 rw [ea,oa,ca] at fa
 rw [eb,ob,cb] at fb
 rw [ec,oc,cc] at fc
 rw [ht3] at hl
 obtain ⟨v0,v1,v2,rfl⟩:∃ v0 v1 v2,cs=[v0,v1,v2]:=by
  match cs,hl with
  | [v0,v1,v2],_=>exact ⟨_,_,_,rfl⟩
 simp at fa fb fc
 obtain ⟨z0,h0,_,_⟩:=DataW.trod_int uA fa
 obtain ⟨z1,h1,_,_⟩:=DataW.trod_int uB fb
 cases h0;cases h1
 rcases DataW.trod_slice uq fc with ⟨e2,_⟩ | ⟨y,len,cap,elems,rest,m,hnm,e2,_,_,hlc,hcm,hlen,hel,_,_⟩
 ·cases e2
  exact ⟨.mk z0 z1 [],_,rfl,RdK.nil _⟩
 ·cases e2
  have hx:∀ i,i<len→∃ p:Ex × Value,(W.cell? (y.add (i * 3))=some (.int .i64 p.1.op)∧W.cell? (y.add (i * 3+1))=some (.int .i64 p.1.lt)∧W.cell? (y.add (i * 3+2))=some p.2)∧RdK (cellR (fun _=>False) W) p.2 p.1.kids:=fun i hi=>by
   have key:=hel i hi
   rw [List.getElem?_eq_getElem (by omega)] at key
   obtain ⟨cs',h1,h2⟩:=Option.bind_eq_some_iff.1 key
   obtain ⟨e,s,rfl,hr⟩:=ih m (by omega) cs' _ h2
   rw [ht3] at h1
   obtain ⟨_,hlen',hcell⟩:=World.cells?_some h1
   have c0:=hcell 0 (by simp)
   have c1:=hcell 1 (by simp)
   have c2:=hcell 2 (by simp)
   rw [Go.Deep.add_add] at c0 c1 c2
   simp at c0 c1 c2
   exact ⟨(e,s),⟨c0,c1,c2⟩,hr⟩
  letI:Inhabited Value:=⟨undef⟩
  obtain ⟨B,hBB⟩:=Go.Deep.choose_lt hx
  have hkl:((List.range len).map fun i=>(B i).1).length=len:=by simp
  have hsl:((List.range len).map fun i=>(B i).2).length=len:=by simp
  have hkg:∀ i,i<len→((List.range len).map fun i=>(B i).1).getD i default=(B i).1:=fun i hi=>by simp [List.getD_eq_getElem?_getD,hi]
  have hsg:∀ i,i<len→((List.range len).map fun i=>(B i).2).getD i undef=(B i).2:=fun i hi=>by simp [List.getD_eq_getElem?_getD,hi]
  refine ⟨.mk z0 z1 ((List.range len).map fun i=>(B i).1),_,rfl,RdK.mk _ ((List.range len).map fun i=>(B i).2) _ (by rw [hsl];exact hkl.symm) ?_ fun i hi=>?_⟩
  ·show Rdx _ (.slice (some y) len cap) 3 ((List.range len).map fun i=>(B i).1).length _
   rw [hkl]
   refine ⟨some y,cap,rfl,hlc,by omega,?_,fun _ _=>rfl,?_⟩
   ·show (xcs ((List.range len).map fun i=>(B i).1) _).length=_
    rw [xcs_length _ _ (by rw [hsl,hkl]),hkl]
   ·intro ad j u had hj
    cases had
    refine ⟨id,?_⟩
    have hj:(xcs ((List.range len).map fun i=>(B i).1) ((List.range len).map fun i=>(B i).2))[j]? = some u:=hj
    have hjn:j<len * 3:=by
     have:=(List.getElem?_eq_some_iff.1 hj).1
     rw [xcs_length _ _ (by rw [hsl,hkl]),hkl] at this;exact this
    have hdiv:j / 3<len:=by omega
    have e:=xcs_at (j / 3) ((List.range len).map fun i=>(B i).1) ((List.range len).map fun i=>(B i).2) (by rw [hsl,hkl]) (by rw [hkl];exact hdiv)
    have e':=congrArg (fun q=>q[j % 3]?) e
    simp only [List.getElem?_take,List.getElem?_drop] at e'
    rw [if_pos (Nat.mod_lt _ (by omega)),show j / 3 * 3+j % 3=j from by omega,hj,hkg _ hdiv,hsg _ hdiv] at e'
    obtain ⟨⟨b1,b2,b3⟩,_⟩:=hBB (j / 3) hdiv
    have h3:j % 3=0∨j % 3=1∨j % 3=2:=by omega
    rcases h3 with hm0 | hm1 | hm2
    ·rw [hm0] at e'
     simp at e'
     rw [show j=j / 3 * 3 from by omega,b1,e']
    ·rw [hm1] at e'
     simp at e'
     rw [show j=j / 3 * 3+1 from by omega,b2,e']
    ·rw [hm2] at e'
     simp at e'
     rw [show j=j / 3 * 3+2 from by omega,b3,e']
  ·have hi':i<len:=by rw [← hkl];exact hi
   rw [hsg i hi']
   show RdK _ _ (((List.range len).map fun i=>(B i).1).getD i default).kids
   rw [hkg i hi']
   exact (hBB i hi').2
theorem open_ex {t:TypeId} (hB:exTB P t=true) {v:Value} {d:DataW H} {p:List MemPlace} (hval:Value.okWide P W .any 0 t v) (h:DataW.Trod enc P W 0 (fun _=>true) true t v d p) :
  ∃ (e:Ex) (s:Value),v = .agg #[.int .i64 e.op,.int .i64 e.lt,s]∧RdK (cellR (fun _=>False) W) s e.kids:=by
 obtain ⟨fuel,hf⟩:=h
 have hst:∃ fs,P.underlying t=some (.struct fs):=by
  unfold exTB at hB
  split at hB
  ·exact ⟨_,‹_›⟩
  ·cases hB
 obtain ⟨fs,hu⟩:=hst
 obtain ⟨cs,rfl,_⟩:=okWide_struct hu hval
 have hf':DataW.trod enc P W 0 (fun _=>true) true fuel t cs.toList=some (d,p):=by simpa [Value.cells] using hf
 obtain ⟨e,s,h1,h2⟩:=op_ex hB fuel _ _ hf'
 have this:cs = #[.int .i64 e.op,.int .i64 e.lt,s]:=by
  apply Array.toList_inj.1;simpa using h1
 exact ⟨e,s,by rw [this],h2⟩
end
end Go.Sx
