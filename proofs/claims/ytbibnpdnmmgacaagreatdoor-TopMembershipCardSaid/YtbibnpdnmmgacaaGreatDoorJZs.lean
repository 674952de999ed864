import Derived.Test.YtbibnpdnmmgacaaGreatDoorJZr
import Derived.Test.YtbibnpdnmmgacaaGreatDoorJZp
set_option linter.unusedVariables false
set_option linter.unusedSimpArgs false
set_option maxRecDepth 100000
namespace Go.Proofs.YtbibnpdnmmgacaaGreatDoor
open Go.Sx Go.RowKit
theorem wf_star {n:Int} {e:Ex} (h:wfE n e=true) (ho:e.op=7∨e.op=8):e.kids.length=1:=by
 obtain ⟨op,lt,ks⟩:=e
 have ho:op=7∨op=8:=ho
 rcases wf_cases h with ⟨h3,_⟩ | ⟨_,(⟨h3,_⟩ | ⟨h3,_⟩ | ⟨_,h3,_⟩)⟩
 ·omega
 ·omega
 ·omega
 ·exact h3
theorem one_list {ks:List Ex} (h:ks.length=1):ks=[ks.getD 0 default]:=by
 match ks,h with
 | [k],_=>rfl
theorem lts_one {ks:List Ex} (h:ks.length=1):ltsL ks=ltsE (ks.getD 0 default):=by
 match ks,h with
 | [k],_=>simp only [ltsL,List.append_nil];rfl
theorem visS_one {ks:List Ex} {s:PS} (h:ks.length=1):visS ks s=(((visE (ks.getD 0 default) s).1.1,(visE (ks.getD 0 default) s).1.2.1,true),((visE (ks.getD 0 default) s).2.1,joinP (visE (ks.getD 0 default) s).2.2 (visE (ks.getD 0 default) s).1.2.1 (visE (ks.getD 0 default) s).1.1)):=by
 match ks,h with
 | [k],_=>rw [visS];rfl
set_option maxHeartbeats 1000000 in
theorem a_join (w:World) (F:Nat→Prop) (pb:Nat) (v:Value) (N c:Nat) (fol:List W64) (hN:fol.length=N) (h64:N≤64) (sv:IsSl v) (hT:TbA w) (hF:¬ F 0) (hA:(bigA [box pb 92 2 [.int .i64 ((c:Nat):Int),v],row v 42 1 N ((fol).map uv)]).holds w F) (nodes next:W64) (hn:∀ i,nodes.getLsbD i=true→i<N):CallM Tryz.prog 107 [.pointer (some ⟨pb,0,none⟩),uv nodes,uv next] w F (fun r A o=>A=bigA [box pb 92 2 [.int .i64 ((c:Nat):Int),v],row v 42 1 N ((joinP fol nodes next).map uv)]∧o=[]):=by
 have hml:=mems_len nodes
 refine specM_of' Tryz.func107 rfl (leb rfl) hA ?_
 refine .sr fun _ hK1=>?_
 refine .mv rfl ?_
 refine AK.call co56 rfl (fun w hw=>s_members w nodes (hT.at hw hF)) trivial rfl ?_
 rintro mv o ⟨smv,rfl⟩
 refine .v (.lenR sl67 rfl rdp) (.mv rfl (.nt hK1 (.block ?_)))
 refine AK.loopK (X:=Nat) [(0,_),(2,_),(9,_),(10,_)] (fun k=>[(11,.int .i64 (k:Int))]) (fun k=>[box pb 92 2 [.int .i64 ((c:Nat):Int),v],row v 42 1 N ((joinL next fol ((mems nodes).take k)).map uv),row mv 3 1 (mems nodes).length ((mI (mems nodes)).map (Value.int .i64))]) (fun k=>k≤(mems nodes).length) (fun k=>(mems nodes).length - k) (0) slr ?_ ?_ ?_ ?_
 ·omega
 ·exact slr
 ·exact fun w hw=>hw
 ·intro k hg0 _ hK2
  refine .sr fun _ hK3=>?_
  refine .v (.lss rfl rfl) (.nt hK3 ?_)
  refine .seq fun _ hK4=>?_
  refine AK.condD rfl (fun hc0=>?_) (fun hc0=>?_)
  ·have hkm:k<(mems nodes).length:=by omega
   have hq:(mems nodes).getD k 0<N:=hn _ (mem_mems.1 (by rw [List.getD_eq_getElem?_getD,List.getElem?_eq_getElem hkm];exact List.getElem_mem hkm))
   have hjl:=(joinL_len next ((mems nodes).take k) fol).trans hN
   refine .skip ?_
   refine AK.then_ (hK4 _ ?_)
   refine .seq fun _ hK5=>?_
   refine .block ?_
   refine .sr fun _ hK6=>?_
   first | refine .v (.iN sl67 rfl rfl) ?_ | refine .v (.iK sl67 rfl rfl) ?_
   refine AK.val (.int .i64 (((mems nodes).getD k 0:Nat):Int)) (Yl.valE (Yl.loadI on3 rfl rdp (by rw [mI_len];omega)) (congrArg (Value.int .i64) (mI_get (by omega)))) trivial rfl ?_
   refine .as rfl (.nt hK6 ?_)
   refine AK.region ?_
   refine .mv rfl (.v (.nilCheck rfl) (.v (.fieldAddr fd92_1 rfl) (.v (.loadBox on64 rfl bsp rfl) (.mv rfl ?_))))
   first | refine .v (.iN sl64 rfl rfl) ?_ | refine .v (.iK sl64 rfl rfl) ?_
   refine .v (.loadU on42 rfl rdp (by omega)) ?_
   refine .mv rfl (.v (.orU rfl rfl) ?_)
   first | refine .v (.iN sl64 rfl rfl) ?_ | refine .v (.iK sl64 rfl rfl) ?_
   refine AK.store1e 1 rfl sz42 rfl rfl rfl rfl (by omega) (cs':=((joinL next fol ((mems nodes).take (k+1))).map uv)) ((by rw [joinL_next hkm,List.map_set])) trivial ?_
   refine .nil (.block_normal ?_)
   refine AK.then_ (hK5 _ ?_)
   refine AK.region ?_
   refine .v (.add rfl rfl (by omega)) ?_
   refine .mv rfl (.nil ?_)
   refine AK.then_ (hK2 _ _ (k+1) (by omega) (by omega) (slr) (fun w hw=>hw))
  ·refine .exit (.then_exit (.then_exit (.block_exit ?_)))
   refine AK.endG [] rfl (.nil) (fun w hw=>⟨_,_,_,?_,rfl,Ret.ofBig0 (hw.pick [0,1] (by decide) rfl rfl)⟩)
   rw [show (mems nodes).take k=(mems nodes) from List.take_of_length_le (by omega)]
   exact ⟨rfl,rfl⟩
def VisS (e:Ex):Prop:=∀ (w:World) (F:Nat→Prop) (pb:Nat) (v:Value) (N c:Nat) (fol:List W64) (hN:fol.length=N) (h64:N≤64) (sv:IsSl v) (hT:TbA w) (hF:¬ F 0) (hA:(bigA [box pb 92 2 [.int .i64 ((c:Nat):Int),v],row v 42 1 N ((fol).map uv)]).holds w F) (s:Value) (h:RdK (cellR F w) s e.kids) (hz:c+(ltsE e).length<N) (hw6:wfE 6 e=true),CallM Tryz.prog 55 [.pointer (some ⟨pb,0,none⟩),.agg #[.int .i64 e.op,.int .i64 e.lt,s]] w F (fun r A o=>r = .agg #[uv (visE e (c,fol)).1.1,uv (visE e (c,fol)).1.2.1,.bool (visE e (c,fol)).1.2.2]∧A=bigA [box pb 92 2 [.int .i64 (((visE e (c,fol)).2.1:Nat):Int),v],row v 42 1 N (((visE e (c,fol)).2.2).map uv)]∧o=[])
set_option maxHeartbeats 4000000 in
theorem s_vis_step (e:Ex) (ih:∀ i,i<e.kids.length→VisS (e.kids.getD i default)) (w:World) (F:Nat→Prop) (pb:Nat) (v:Value) (N c:Nat) (fol:List W64) (hN:fol.length=N) (h64:N≤64) (sv:IsSl v) (hT:TbA w) (hF:¬ F 0) (hA:(bigA [box pb 92 2 [.int .i64 ((c:Nat):Int),v],row v 42 1 N ((fol).map uv)]).holds w F) (s:Value) (h:RdK (cellR F w) s e.kids) (hz:c+(ltsE e).length<N) (hw6:wfE 6 e=true):CallM Tryz.prog 55 [.pointer (some ⟨pb,0,none⟩),.agg #[.int .i64 e.op,.int .i64 e.lt,s]] w F (fun r A o=>r = .agg #[uv (visE e (c,fol)).1.1,uv (visE e (c,fol)).1.2.1,.bool (visE e (c,fol)).1.2.2]∧A=bigA [box pb 92 2 [.int .i64 (((visE e (c,fol)).2.1:Nat):Int),v],row v 42 1 N (((visE e (c,fol)).2.2).map uv)]∧o=[]):=by
 obtain ⟨ss,hl,hx,hk⟩:=h.inv
 have hr:=hx.rd
 have hm:=hr.le
 have sk0:=h.sl
 refine specM_of Tryz.func55 rfl (leb rfl) hA ?_
 refine .sr fun _ hK1=>?_
 refine AK.box_ (E:=24) (cs:=[.int .i64 e.op,.int .i64 e.lt,s]) rfl rfl rfl trivial rfl (fun bx3=>?_)
 refine AK.alloc el94 rfl rfl trivial rfl (fun bx4=>?_)
 refine .nt hK1 ?_
 refine .seq fun _ hK2=>?_
 refine .sr fun _ hK3=>?_
 refine .v (.fieldAddr fd24_0 rfl) (.v (.loadBox on3 rfl bsp rfl) (.nt hK3 (.block ?_)))
 refine .sr fun _ hK4=>?_
 refine .v (.eql rfl rfl) (.as rfl (.nt hK4 ?_))
 refine AK.condD rfl (fun hc0=>?_) (fun hc0=>?_)
 ·refine .sr fun _ hK5=>?_
  refine .v (.build (parts:=[(2,.const (.bool true))]) (cs:=#[uv 0,uv 0,.bool true]) rfl (by kernel_rfl)) ?_
  refine AK.storeBox 2 (us:=[uv 0,uv 0,.bool true]) (cs':=[uv 0,uv 0,.bool true]) rfl sz94 rfl rfl rfl rfl oneP (leb rfl) rfl trivial ?_
  refine .nt hK5 (.ret (.block_ret (.then_ret ?_)))
  refine AK.retG [.cell 4 94] rfl (.cons (.cell ag94 rfl bsp rfl rfl) (.nil)) (fun w hw=>⟨_,_,_,?_,rfl,Ret.of (hw.pick [0] (by decide) rfl rfl)⟩)
  rw [visE_eq e (c,fol),if_pos (by simpa using hc0)]
  exact ⟨rfl,rfl,rfl⟩
 ·refine .sr fun _ hK6=>?_
  refine .v (.eql rfl rfl) (.as rfl (.nt hK6 ?_))
  refine AK.condD rfl (fun hc1=>?_) (fun hc1=>?_)
  ·refine AK.flat0 rfl ?_
   have hle:ltsE e=[e.lt]:=by rw [ltsE_eq,if_pos (by simpa using hc1)]
   rw [hle] at hz
   have hz1:c+1<N:=hz
   refine .sr fun _ hK7=>?_
   refine .mv rfl (.v (.nilCheck rfl) (.v (.fieldAddr fd92_0 rfl) (.v (.loadBox on3 rfl bsp rfl) ?_)))
   refine .v (.addE (((c+1:Nat):Int)) rfl rfl (by omega) (by omega)) ?_
   refine .v (.nilCheck rfl) (.v (.fieldAddr fd92_0 rfl) ?_)
   refine AK.storeBox 0 (us:=[.int .i64 ((c+1:Nat):Int)]) (cs':=[.int .i64 ((c+1:Nat):Int),v]) rfl sz3 rfl rfl rfl rfl oneP (leb rfl) rfl trivial ?_
   refine .nt hK7 ?_
   refine .seq fun _ hK8=>?_
   try (conv=>enter [2,2];simp only [nrm])
   refine AK.held 11 mixed ?_
   refine HeldK.first 0 (fuel:=11) (listed':=(lb 12 1)) _ rfl krf krf rfl (Yl.move rfl) trivial rfl ?_
   refine HeldK.first 1 (fuel:=10) (listed':=(lb 12 3)) _ rfl krf krf rfl (Yl.nilCheck rfl) trivial rfl ?_
   refine HeldK.first 2 (fuel:=9) (listed':=(lb 12 7)) _ rfl krf krf rfl (Yl.fieldAddr fd92_0 rfl) trivial rfl ?_
   refine HeldK.first 3 (fuel:=8) (listed':=(lb 12 15)) _ rfl krf krf rfl (Yl.loadBox on3 rfl bsp rfl) trivial rfl ?_
   refine HeldK.first 4 (fuel:=7) (listed':=(lb 12 31)) _ rfl krf krf rfl (Yl.shlU (a:=1) rfl rfl (by omega)) trivial rfl ?_
   refine HeldK.first 5 (fuel:=6) (listed':=(lb 12 63)) _ rfl krf krf rfl (Yl.move rfl) trivial rfl ?_
   refine HeldK.first 6 (fuel:=5) (listed':=(lb 12 127)) _ rfl krf krf rfl (Yl.nilCheck rfl) trivial rfl ?_
   refine HeldK.first 7 (fuel:=4) (listed':=(lb 12 255)) _ rfl krf krf rfl (Yl.fieldAddr fd92_0 rfl) trivial rfl ?_
   refine HeldK.first 8 (fuel:=3) (listed':=(lb 12 511)) _ rfl krf krf rfl (Yl.loadBox on3 rfl bsp rfl) trivial rfl ?_
   refine HeldK.first 9 (fuel:=2) (listed':=(lb 12 1023)) _ rfl krf krf rfl (Yl.shlU (a:=1) rfl rfl (by omega)) trivial rfl ?_
   refine HeldK.first 10 (fuel:=1) (listed':=(lb 12 2047)) _ rfl krf krf rfl (Yl.build (parts:=[(0,.tmp 32),(1,.tmp 37)]) (cs:=#[uv (bit ((c+1:Nat):Int)),uv (bit ((c+1:Nat):Int)),.bool false]) rfl (by kernel_rfl)) trivial rfl ?_
   refine HeldK.one 11 (fuel:=0) (listed':=(lb 12 4095)) krf rfl krf ?_
   refine AK.storeBox 3 (us:=[uv (bit ((c+1:Nat):Int)),uv (bit ((c+1:Nat):Int)),.bool false]) (cs':=[uv (bit ((c+1:Nat):Int)),uv (bit ((c+1:Nat):Int)),.bool false]) rfl sz94 rfl rfl rfl rfl oneP (leb rfl) rfl trivial ?_
   refine .nil ?_
   try (conv=>enter [2,2];simp only [nrm])
   refine HeldK.backN 12 krf rfl krf ?_
   refine .nil ?_
   refine AK.fromQn ?_
   refine AK.then_ (hK8 _ ?_)
   refine .ret (.block_ret (.then_ret ?_))
   refine AK.own' [bigA [box pb 92 2 [.int .i64 ((c+1:Nat):Int),v],row v 42 1 N ((fol).map uv)],box bx4 94 3 [uv (bit ((c+1:Nat):Int)),uv (bit ((c+1:Nat):Int)),.bool false]] (fun w hw=>by have h:=HW.unflat (l:=[_,_]) (own:=[_]) (hw.pick [0,1,3] (by decide) rfl rfl);exact h) ?_
   refine AK.retG [.cell 4 94] rfl (.cons (.cell ag94 rfl bsp rfl rfl) (.nil)) (fun w hw=>⟨_,_,_,?_,rfl,Ret.of (hw.pick [0] (by decide) rfl rfl)⟩)
   rw [visE_eq e (c,fol),if_neg (by simpa using hc0),if_pos (by simpa using hc1)]
   exact ⟨rfl,rfl,rfl⟩
  ·refine .sr fun _ hK9=>?_
   refine .v (.eql rfl rfl) (.as rfl (.nt hK9 ?_))
   refine AK.condD rfl (fun hc2=>?_) (fun hc2=>?_)
   ·refine .sr fun _ hK10=>?_
    refine AK.alloc el94 rfl rfl trivial rfl (fun bx5=>?_)
    refine .nt hK10 ?_
    refine .seq fun _ hK11=>?_
    refine .sr fun _ hK12=>?_
    refine .v (.fieldAddr fd24_2 rfl) (.v (.loadBox on22 rfl bsp rfl) (.v (.lenR sl22 rfl rdp) (.mv rfl (.nt hK12 (.block ?_)))))
    refine AK.loopK (X:=Nat) [(0,_),(4,_),(5,_),(42,_),(43,_)] (fun k=>[(44,.int .i64 (k:Int))]) (fun k=>[bigA [box pb 92 2 [.int .i64 (((visU (e.kids.take k) (0,0,false) (c,fol)).2.1:Nat):Int),v],row v 42 1 N (((visU (e.kids.take k) (0,0,false) (c,fol)).2.2).map uv)],box bx3 24 3 [.int .i64 e.op,.int .i64 e.lt,s],box bx4 94 3 [uv 0,uv 0,.bool false],box bx5 94 3 [uv (visU (e.kids.take k) (0,0,false) (c,fol)).1.1,uv (visU (e.kids.take k) (0,0,false) (c,fol)).1.2.1,.bool (visU (e.kids.take k) (0,0,false) (c,fol)).1.2.2]]) (fun k=>k≤e.kids.length) (fun k=>e.kids.length - k) (0) slr ?_ ?_ ?_ ?_
    ·omega
    ·exact slr
    ·exact fun w hw=>hw
    ·intro k hg0 _ hK13
     refine .sr fun _ hK14=>?_
     refine .v (.lss rfl rfl) (.nt hK14 ?_)
     refine .seq fun _ hK15=>?_
     refine AK.condD rfl (fun hc3=>?_) (fun hc3=>?_)
     ·have hkx:k<e.kids.length:=by omega
      have sk:=(hk k hkx).sl
      have hlk:=ltsL_take e.kids (k+1)
      rw [ltsL_next hkx,List.length_append] at hlk
      have hop:¬ e.op=3:=by omega
      have hle:ltsE e=ltsL e.kids:=by rw [ltsE_eq,if_neg hop]
      rw [hle] at hz
      have hbd:=visU_bd (e.kids.take k) (0,0,false) (c,fol) (by show c+_<64;omega) (fun i hi=>by rw [get0] at hi;cases hi)
      have hzk:(visU (e.kids.take k) (0,0,false) (c,fol)).2.1+(ltsE (e.kids.getD k default)).length<N:=by have h1:=hbd.hi;dsimp only at h1;omega
      have hbk:=vis_bd (e.kids.getD k default) (visU (e.kids.take k) (0,0,false) (c,fol)).2 (by omega)
      refine .skip ?_
      refine AK.then_ (hK15 _ ?_)
      refine .seq fun _ hK16=>?_
      refine .block ?_
      refine .sr fun _ hK17=>?_
      first | refine .v (.iN sl22 rfl rfl) ?_ | refine .v (.iK sl22 rfl rfl) ?_
      refine .v (.loadE ag24 rfl rdp (by assumption) rfl (by omega)) ?_
      refine AK.alloc el24 rfl rfl trivial rfl (fun bx7=>?_)
      refine AK.storeBox 4 (us:=[.int .i64 (e.kids.getD k default).op,.int .i64 (e.kids.getD k default).lt,ss.getD k undef]) (cs':=[.int .i64 (e.kids.getD k default).op,.int .i64 (e.kids.getD k default).lt,ss.getD k undef]) rfl sz24 rfl rfl rfl rfl oneP (leb rfl) rfl trivial ?_
      refine .nt hK17 ?_
      refine .sr fun _ hK18=>?_
      refine .mv rfl (.v (.loadBoxG ag24 rfl bsp rfl rfl) ?_)
      refine AK.callN 0 rfl co55 rfl (fun w Fs hw hh hfr hal=>ih k hkx w (Fs 0) pb v N (visU (e.kids.take k) (0,0,false) (c,fol)).2.1 (visU (e.kids.take k) (0,0,false) (c,fol)).2.2 (hbd.len.trans hN) h64 sv (hT.at hw hF) (fun hb=>by rcases hal 0 0 hb with h | h;exact absurd hT.lt (Nat.not_lt.2 h);exact hF h) (hh.at_ 0 _ rfl) _ ((hk k hkx).atN hfr hal 0) hzk (wf_kid hw6 hkx)) trivial rfl ?_
      rintro r A o ⟨rfl,rfl,rfl⟩
      refine AK.alloc el94 rfl rfl trivial rfl (fun bx8=>?_)
      refine AK.storeBox 5 (us:=[uv (visE (e.kids.getD k default) (visU (e.kids.take k) (0,0,false) (c,fol)).2).1.1,uv (visE (e.kids.getD k default) (visU (e.kids.take k) (0,0,false) (c,fol)).2).1.2.1,.bool (visE (e.kids.getD k default) (visU (e.kids.take k) (0,0,false) (c,fol)).2).1.2.2]) (cs':=[uv (visE (e.kids.getD k default) (visU (e.kids.take k) (0,0,false) (c,fol)).2).1.1,uv (visE (e.kids.getD k default) (visU (e.kids.take k) (0,0,false) (c,fol)).2).1.2.1,.bool (visE (e.kids.getD k default) (visU (e.kids.take k) (0,0,false) (c,fol)).2).1.2.2]) rfl sz94 rfl rfl rfl rfl oneP (leb rfl) rfl trivial ?_
      refine .nt hK18 ?_
      refine AK.region ?_
      refine .v (.fieldAddr fd94_0 rfl) (.v (.loadBox on42 rfl bsp rfl) (.v (.fieldAddr fd94_0 rfl) (.v (.loadBox on42 rfl bsp rfl) (.v (.orU rfl rfl) (.v (.fieldAddr fd94_1 rfl) (.v (.loadBox on42 rfl bsp rfl) (.v (.fieldAddr fd94_1 rfl) ?_)))))))
      refine .v (.loadBox on42 rfl bsp rfl) (.v (.orU rfl rfl) (.v (.fieldAddr fd94_2 rfl) (.v (.loadBox on4 rfl bsp rfl) (.mv rfl ?_))))
      refine AK.splitB (g:=63) rfl (fun hg_13_12=>?_) (fun hg_13_12=>?_)
      ·have hg_13_12':=hg_13_12
       try simp only [bs] at hg_13_12'
       refine AK.pass rfl rfl (hg_13_12) rfl ?_
       refine AK.pass rfl rfl (hg_13_12) rfl ?_
       refine .v (.pickT rfl (hg_13_12) rfl) ?_
       refine .v (.build (parts:=[(0,.tmp 55),(1,.tmp 60),(2,.tmp 66)]) (cs:=#[uv ((visU (e.kids.take k) (0,0,false) (c,fol)).1.1 ||| (visE (e.kids.getD k default) (visU (e.kids.take k) (0,0,false) (c,fol)).2).1.1),uv ((visU (e.kids.take k) (0,0,false) (c,fol)).1.2.1 ||| (visE (e.kids.getD k default) (visU (e.kids.take k) (0,0,false) (c,fol)).2).1.2.1),.bool true]) rfl (by kernel_rfl)) ?_
       refine AK.storeBox 3 (us:=[uv ((visU (e.kids.take k) (0,0,false) (c,fol)).1.1 ||| (visE (e.kids.getD k default) (visU (e.kids.take k) (0,0,false) (c,fol)).2).1.1),uv ((visU (e.kids.take k) (0,0,false) (c,fol)).1.2.1 ||| (visE (e.kids.getD k default) (visU (e.kids.take k) (0,0,false) (c,fol)).2).1.2.1),.bool true]) (cs':=[uv ((visU (e.kids.take k) (0,0,false) (c,fol)).1.1 ||| (visE (e.kids.getD k default) (visU (e.kids.take k) (0,0,false) (c,fol)).2).1.1),uv ((visU (e.kids.take k) (0,0,false) (c,fol)).1.2.1 ||| (visE (e.kids.getD k default) (visU (e.kids.take k) (0,0,false) (c,fol)).2).1.2.1),.bool true]) rfl sz94 rfl rfl rfl rfl oneP (leb rfl) rfl trivial ?_
       refine .nil (.block_normal ?_)
       refine AK.then_ (hK16 _ ?_)
       refine AK.region ?_
       refine .v (.add rfl rfl (by omega)) ?_
       refine .mv rfl (.nil ?_)
       first | refine AK.then_ (hK13 _ _ (k+1) (by omega) (by omega) (slr) (fun w hw=>by rw [visU_next hkx];simp only [uniR];rw [hg_13_12];have h:=hw.pick [0,1,2,3] (by decide) rfl rfl;simpa using h)) | refine AK.then_ (hK13 _ _ (k+1) (by omega) (by omega) (slr) (fun w hw=>by rw [visU_next hkx];simp only [uniR];rw [hg_13_12];have h:=hw.pick [0,1,2,3] (by decide) rfl rfl;simpa using h))
      ·have hg_13_12':=hg_13_12
       try simp only [bs] at hg_13_12'
       refine AK.val _ (Yl.fieldAddr fd94_2 rfl) ⟨_,rfl,gB hg_13_12⟩ rfl ?_
       refine AK.val _ (Yl.loadBox on4 rfl bsp rfl) ⟨_,rfl,gB hg_13_12⟩ rfl ?_
       refine .v (.pickF rfl (hg_13_12) rfl) ?_
       refine .v (.build (parts:=[(0,.tmp 55),(1,.tmp 60),(2,.tmp 66)]) (cs:=#[uv ((visU (e.kids.take k) (0,0,false) (c,fol)).1.1 ||| (visE (e.kids.getD k default) (visU (e.kids.take k) (0,0,false) (c,fol)).2).1.1),uv ((visU (e.kids.take k) (0,0,false) (c,fol)).1.2.1 ||| (visE (e.kids.getD k default) (visU (e.kids.take k) (0,0,false) (c,fol)).2).1.2.1),.bool (visE (e.kids.getD k default) (visU (e.kids.take k) (0,0,false) (c,fol)).2).1.2.2]) rfl (by kernel_rfl)) ?_
       refine AK.storeBox 3 (us:=[uv ((visU (e.kids.take k) (0,0,false) (c,fol)).1.1 ||| (visE (e.kids.getD k default) (visU (e.kids.take k) (0,0,false) (c,fol)).2).1.1),uv ((visU (e.kids.take k) (0,0,false) (c,fol)).1.2.1 ||| (visE (e.kids.getD k default) (visU (e.kids.take k) (0,0,false) (c,fol)).2).1.2.1),.bool (visE (e.kids.getD k default) (visU (e.kids.take k) (0,0,false) (c,fol)).2).1.2.2]) (cs':=[uv ((visU (e.kids.take k) (0,0,false) (c,fol)).1.1 ||| (visE (e.kids.getD k default) (visU (e.kids.take k) (0,0,false) (c,fol)).2).1.1),uv ((visU (e.kids.take k) (0,0,false) (c,fol)).1.2.1 ||| (visE (e.kids.getD k default) (visU (e.kids.take k) (0,0,false) (c,fol)).2).1.2.1),.bool (visE (e.kids.getD k default) (visU (e.kids.take k) (0,0,false) (c,fol)).2).1.2.2]) rfl sz94 rfl rfl rfl rfl oneP (leb rfl) rfl trivial ?_
       refine .nil (.block_normal ?_)
       refine AK.then_ (hK16 _ ?_)
       refine AK.region ?_
       refine .v (.add rfl rfl (by omega)) ?_
       refine .mv rfl (.nil ?_)
       first | refine AK.then_ (hK13 _ _ (k+1) (by omega) (by omega) (slr) (fun w hw=>by rw [visU_next hkx];simp only [uniR];rw [hg_13_12];have h:=hw.pick [0,1,2,3] (by decide) rfl rfl;simpa using h)) | refine AK.then_ (hK13 _ _ (k+1) (by omega) (by omega) (slr) (fun w hw=>by rw [visU_next hkx];simp only [uniR];rw [hg_13_12];have h:=hw.pick [0,1,2,3] (by decide) rfl rfl;simpa using h))
     ·have hkx:k=e.kids.length:=by omega
      refine .exit (.then_exit (.then_exit (.block_exit ?_)))
      refine AK.then_ (hK11 _ ?_)
      refine .sr fun _ hK19=>?_
      refine .v (.loadBoxG ag94 rfl bsp rfl rfl) ?_
      refine AK.storeBox 2 (us:=[uv (visU (e.kids.take k) (0,0,false) (c,fol)).1.1,uv (visU (e.kids.take k) (0,0,false) (c,fol)).1.2.1,.bool (visU (e.kids.take k) (0,0,false) (c,fol)).1.2.2]) (cs':=[uv (visU (e.kids.take k) (0,0,false) (c,fol)).1.1,uv (visU (e.kids.take k) (0,0,false) (c,fol)).1.2.1,.bool (visU (e.kids.take k) (0,0,false) (c,fol)).1.2.2]) rfl sz94 rfl rfl rfl rfl oneP (leb rfl) rfl trivial ?_
      refine .nt hK19 (.ret (.block_ret (.then_ret ?_)))
      refine AK.retG [.cell 4 94] rfl (.cons (.cell ag94 rfl bsp rfl rfl) (.nil)) (fun w hw=>⟨_,_,_,?_,rfl,Ret.of (hw.pick [0] (by decide) rfl rfl)⟩)
      rw [hkx,List.take_length] at *
      rw [visE_eq e (c,fol),if_neg (by simpa using hc0),if_neg (by simpa using hc1),if_pos (by simpa using hc2)]
      exact ⟨rfl,rfl,rfl⟩
   ·refine .sr fun _ hK20=>?_
    refine .v (.eql rfl rfl) (.as rfl (.nt hK20 ?_))
    refine AK.condD rfl (fun hc4=>?_) (fun hc4=>?_)
    ·refine .sr fun _ hK21=>?_
     refine .v (.build (parts:=[(2,.const (.bool true))]) (cs:=#[uv 0,uv 0,.bool true]) rfl (by kernel_rfl)) ?_
     refine AK.alloc el94 rfl rfl trivial rfl (fun bx9=>?_)
     refine AK.storeBox 3 (us:=[uv 0,uv 0,.bool true]) (cs':=[uv 0,uv 0,.bool true]) rfl sz94 rfl rfl rfl rfl oneP (leb rfl) rfl trivial ?_
     refine .nt hK21 ?_
     refine .seq fun _ hK22=>?_
     refine .sr fun _ hK23=>?_
     refine .v (.fieldAddr fd24_2 rfl) (.v (.loadBox on22 rfl bsp rfl) (.v (.lenR sl22 rfl rdp) (.mv rfl (.nt hK23 (.block ?_)))))
     refine AK.loopK (X:=Nat) [(0,_),(4,_),(9,_),(74,_),(75,_)] (fun k=>[(76,.int .i64 (k:Int))]) (fun k=>[bigA [box pb 92 2 [.int .i64 (((visC (e.kids.take k) (0,0,true) (c,fol)).2.1:Nat):Int),v],row v 42 1 N (((visC (e.kids.take k) (0,0,true) (c,fol)).2.2).map uv)],box bx3 24 3 [.int .i64 e.op,.int .i64 e.lt,s],box bx4 94 3 [uv 0,uv 0,.bool false],box bx9 94 3 [uv (visC (e.kids.take k) (0,0,true) (c,fol)).1.1,uv (visC (e.kids.take k) (0,0,true) (c,fol)).1.2.1,.bool (visC (e.kids.take k) (0,0,true) (c,fol)).1.2.2]]) (fun k=>k≤e.kids.length) (fun k=>e.kids.length - k) (0) slr ?_ ?_ ?_ ?_
     ·omega
     ·exact slr
     ·exact fun w hw=>hw
     ·intro k hg1 _ hK24
      refine .sr fun _ hK25=>?_
      refine .v (.lss rfl rfl) (.nt hK25 ?_)
      refine .seq fun _ hK26=>?_
      refine AK.condD rfl (fun hc5=>?_) (fun hc5=>?_)
      ·have hkx:k<e.kids.length:=by omega
       have sk:=(hk k hkx).sl
       have hlk:=ltsL_take e.kids (k+1)
       rw [ltsL_next hkx,List.length_append] at hlk
       have hop:¬ e.op=3:=by omega
       have hle:ltsE e=ltsL e.kids:=by rw [ltsE_eq,if_neg hop]
       rw [hle] at hz
       have hbd:=visC_bd (e.kids.take k) (0,0,true) (c,fol) (by show c+_<64;omega) (fun i hi=>by rw [get0] at hi;cases hi)
       have hzk:(visC (e.kids.take k) (0,0,true) (c,fol)).2.1+(ltsE (e.kids.getD k default)).length<N:=by have h1:=hbd.hi;dsimp only at h1;omega
       have hbk:=vis_bd (e.kids.getD k default) (visC (e.kids.take k) (0,0,true) (c,fol)).2 (by omega)
       refine .skip ?_
       refine AK.then_ (hK26 _ ?_)
       refine .seq fun _ hK27=>?_
       refine .block ?_
       refine .sr fun _ hK28=>?_
       first | refine .v (.iN sl22 rfl rfl) ?_ | refine .v (.iK sl22 rfl rfl) ?_
       refine .v (.loadE ag24 rfl rdp (by assumption) rfl (by omega)) ?_
       refine AK.alloc el24 rfl rfl trivial rfl (fun bx11=>?_)
       refine AK.storeBox 4 (us:=[.int .i64 (e.kids.getD k default).op,.int .i64 (e.kids.getD k default).lt,ss.getD k undef]) (cs':=[.int .i64 (e.kids.getD k default).op,.int .i64 (e.kids.getD k default).lt,ss.getD k undef]) rfl sz24 rfl rfl rfl rfl oneP (leb rfl) rfl trivial ?_
       refine .nt hK28 ?_
       refine .sr fun _ hK29=>?_
       refine .mv rfl (.v (.loadBoxG ag24 rfl bsp rfl rfl) ?_)
       refine AK.callN 0 rfl co55 rfl (fun w Fs hw hh hfr hal=>ih k hkx w (Fs 0) pb v N (visC (e.kids.take k) (0,0,true) (c,fol)).2.1 (visC (e.kids.take k) (0,0,true) (c,fol)).2.2 (hbd.len.trans hN) h64 sv (hT.at hw hF) (fun hb=>by rcases hal 0 0 hb with h | h;exact absurd hT.lt (Nat.not_lt.2 h);exact hF h) (hh.at_ 0 _ rfl) _ ((hk k hkx).atN hfr hal 0) hzk (wf_kid hw6 hkx)) trivial rfl ?_
       rintro r A o ⟨rfl,rfl,rfl⟩
       refine AK.alloc el94 rfl rfl trivial rfl (fun bx12=>?_)
       refine AK.storeBox 5 (us:=[uv (visE (e.kids.getD k default) (visC (e.kids.take k) (0,0,true) (c,fol)).2).1.1,uv (visE (e.kids.getD k default) (visC (e.kids.take k) (0,0,true) (c,fol)).2).1.2.1,.bool (visE (e.kids.getD k default) (visC (e.kids.take k) (0,0,true) (c,fol)).2).1.2.2]) (cs':=[uv (visE (e.kids.getD k default) (visC (e.kids.take k) (0,0,true) (c,fol)).2).1.1,uv (visE (e.kids.getD k default) (visC (e.kids.take k) (0,0,true) (c,fol)).2).1.2.1,.bool (visE (e.kids.getD k default) (visC (e.kids.take k) (0,0,true) (c,fol)).2).1.2.2]) rfl sz94 rfl rfl rfl rfl oneP (leb rfl) rfl trivial ?_
       refine .nt hK29 ?_
       refine .sr fun _ hK30=>?_
       refine .mv rfl (.v (.fieldAddr fd94_1 rfl) (.v (.loadBox on42 rfl bsp rfl) (.v (.fieldAddr fd94_0 rfl) (.v (.loadBox on42 rfl bsp rfl) ?_))))
       refine AK.callN 0 rfl co107 rfl (fun w Fs hw hh hfr hal=>a_join w (Fs 0) pb v N (visE (e.kids.getD k default) (visC (e.kids.take k) (0,0,true) (c,fol)).2).2.1 (visE (e.kids.getD k default) (visC (e.kids.take k) (0,0,true) (c,fol)).2).2.2 (hbk.len.trans (hbd.len.trans hN)) h64 sv (hT.at hw hF) (fun hb=>by rcases hal 0 0 hb with h | h;exact absurd hT.lt (Nat.not_lt.2 h);exact hF h) (hh.at_ 0 _ rfl) (visC (e.kids.take k) (0,0,true) (c,fol)).1.2.1 (visE (e.kids.getD k default) (visC (e.kids.take k) (0,0,true) (c,fol)).2).1.1 (fun i hi=>by have h1:=hbd.la i hi;have h2:=hbk.lo;have h3:=hbk.hi;omega)) trivial rfl ?_
       rintro r A o ⟨rfl,rfl⟩
       refine .nt hK30 ?_
       refine .seq fun _ hK31=>?_
       refine .sr fun _ hK32=>?_
       refine .v (.fieldAddr fd94_2 rfl) (.v (.loadBox on4 rfl bsp rfl) (.nt hK32 ?_))
       refine AK.cond rfl (fun hc6=>?_) (fun hc6=>?_)
       ·try simp only [bs] at hc6
        refine AK.region ?_
        refine .v (.fieldAddr fd94_0 rfl) (.v (.loadBox on42 rfl bsp rfl) (.v (.fieldAddr fd94_0 rfl) (.v (.loadBox on42 rfl bsp rfl) (.v (.orU rfl rfl) (.v (.fieldAddr fd94_0 rfl) ?_)))))
        refine AK.storeBox 3 (us:=[uv ((visC (e.kids.take k) (0,0,true) (c,fol)).1.1 ||| (visE (e.kids.getD k default) (visC (e.kids.take k) (0,0,true) (c,fol)).2).1.1)]) (cs':=[uv ((visC (e.kids.take k) (0,0,true) (c,fol)).1.1 ||| (visE (e.kids.getD k default) (visC (e.kids.take k) (0,0,true) (c,fol)).2).1.1),uv (visC (e.kids.take k) (0,0,true) (c,fol)).1.2.1,.bool (visC (e.kids.take k) (0,0,true) (c,fol)).1.2.2]) rfl sz42 rfl rfl rfl rfl oneP (leb rfl) rfl trivial ?_
        refine .nt hK31 ?_
        refine .seq fun _ hK33=>?_
        refine .sr fun _ hK34=>?_
        refine .v (.fieldAddr fd94_2 rfl) (.v (.loadBox on4 rfl bsp rfl) (.v (.not rfl) (.nt hK34 ?_)))
        refine AK.condB rfl (fun hc7=>?_) (fun hc7=>?_)
        ·refine AK.region ?_
         refine .v (.fieldAddr fd94_1 rfl) ?_
         refine AK.storeBox 3 (us:=[uv 0]) (cs':=[uv ((visC (e.kids.take k) (0,0,true) (c,fol)).1.1 ||| (visE (e.kids.getD k default) (visC (e.kids.take k) (0,0,true) (c,fol)).2).1.1),uv 0,.bool (visC (e.kids.take k) (0,0,true) (c,fol)).1.2.2]) rfl sz42 rfl rfl rfl rfl oneP (leb rfl) rfl trivial ?_
         refine .nt hK33 ?_
         refine .sr fun _ hK35=>?_
         refine .v (.fieldAddr fd94_1 rfl) (.v (.loadBox on42 rfl bsp rfl) (.v (.fieldAddr fd94_1 rfl) (.v (.loadBox on42 rfl bsp rfl) (.v (.orU rfl rfl) (.v (.fieldAddr fd94_1 rfl) ?_)))))
         refine AK.storeBox 3 (us:=[uv ((0:W64) ||| (visE (e.kids.getD k default) (visC (e.kids.take k) (0,0,true) (c,fol)).2).1.2.1)]) (cs':=[uv ((visC (e.kids.take k) (0,0,true) (c,fol)).1.1 ||| (visE (e.kids.getD k default) (visC (e.kids.take k) (0,0,true) (c,fol)).2).1.1),uv ((0:W64) ||| (visE (e.kids.getD k default) (visC (e.kids.take k) (0,0,true) (c,fol)).2).1.2.1),.bool (visC (e.kids.take k) (0,0,true) (c,fol)).1.2.2]) rfl sz42 rfl rfl rfl rfl oneP (leb rfl) rfl trivial ?_
         refine .nt hK35 ?_
         refine AK.region ?_
         refine .v (.fieldAddr fd94_2 rfl) (.v (.loadBox on4 rfl bsp rfl) (.mv rfl ?_))
         refine AK.knownT (g:=109) rfl (hc6) (fun hg_28_2=>?_)
         refine AK.val _ (Yl.fieldAddr fd94_2 rfl) ⟨_,rfl,gB hg_28_2⟩ rfl ?_
         refine AK.val _ (Yl.loadBox on4 rfl bsp rfl) ⟨_,rfl,gB hg_28_2⟩ rfl ?_
         refine .v (.pickT rfl (hg_28_2) rfl) (.v (.fieldAddr fd94_2 rfl) ?_)
         refine AK.storeBox 3 (us:=[.bool (visE (e.kids.getD k default) (visC (e.kids.take k) (0,0,true) (c,fol)).2).1.2.2]) (cs':=[uv ((visC (e.kids.take k) (0,0,true) (c,fol)).1.1 ||| (visE (e.kids.getD k default) (visC (e.kids.take k) (0,0,true) (c,fol)).2).1.1),uv ((0:W64) ||| (visE (e.kids.getD k default) (visC (e.kids.take k) (0,0,true) (c,fol)).2).1.2.1),.bool (visE (e.kids.getD k default) (visC (e.kids.take k) (0,0,true) (c,fol)).2).1.2.2]) rfl sz4 rfl rfl rfl rfl oneP (leb rfl) rfl trivial ?_
         refine .nil (.block_normal ?_)
         refine AK.then_ (hK27 _ ?_)
         refine AK.region ?_
         refine .v (.add rfl rfl (by omega)) ?_
         refine .mv rfl (.nil ?_)
         first | refine AK.then_ (hK24 _ _ (k+1) (by omega) (by omega) (slr) (fun w hw=>by
          have e:catR (visC (e.kids.take k) (0,0,true) (c,fol)).1 (visE (e.kids.getD k default) (visC (e.kids.take k) (0,0,true) (c,fol)).2).1=(((visC (e.kids.take k) (0,0,true) (c,fol)).1.1 ||| (visE (e.kids.getD k default) (visC (e.kids.take k) (0,0,true) (c,fol)).2).1.1),((0:W64) ||| (visE (e.kids.getD k default) (visC (e.kids.take k) (0,0,true) (c,fol)).2).1.2.1),(visE (e.kids.getD k default) (visC (e.kids.take k) (0,0,true) (c,fol)).2).1.2.2):=by simp only [catR,hc6,hc7,if_true,if_false,Bool.false_eq_true,reduceIte,Bool.true_and,Bool.false_and]
          rw [visC_next hkx,e]
          exact hw.pick [0,1,2,3] (by decide) rfl rfl)) | refine AK.then_ (hK24 _ _ (k+1) (by omega) (by omega) (slr) (fun w hw=>by
          have e:catR (visC (e.kids.take k) (0,0,true) (c,fol)).1 (visE (e.kids.getD k default) (visC (e.kids.take k) (0,0,true) (c,fol)).2).1=(((visC (e.kids.take k) (0,0,true) (c,fol)).1.1 ||| (visE (e.kids.getD k default) (visC (e.kids.take k) (0,0,true) (c,fol)).2).1.1),((visC (e.kids.take k) (0,0,true) (c,fol)).1.2.1 ||| (visE (e.kids.getD k default) (visC (e.kids.take k) (0,0,true) (c,fol)).2).1.2.1),(visE (e.kids.getD k default) (visC (e.kids.take k) (0,0,true) (c,fol)).2).1.2.2):=by simp only [catR,hc6,hc7,if_true,if_false,Bool.false_eq_true,reduceIte,Bool.true_and,Bool.false_and]
          rw [visC_next hkx,e]
          exact hw.pick [0,1,2,3] (by decide) rfl rfl)) | refine AK.then_ (hK24 _ _ (k+1) (by omega) (by omega) (slr) (fun w hw=>by
          have e:catR (visC (e.kids.take k) (0,0,true) (c,fol)).1 (visE (e.kids.getD k default) (visC (e.kids.take k) (0,0,true) (c,fol)).2).1=((visC (e.kids.take k) (0,0,true) (c,fol)).1.1,((0:W64) ||| (visE (e.kids.getD k default) (visC (e.kids.take k) (0,0,true) (c,fol)).2).1.2.1),false):=by simp only [catR,hc6,hc7,if_true,if_false,Bool.false_eq_true,reduceIte,Bool.true_and,Bool.false_and]
          rw [visC_next hkx,e]
          exact hw.pick [0,1,2,3] (by decide) rfl rfl)) | refine AK.then_ (hK24 _ _ (k+1) (by omega) (by omega) (slr) (fun w hw=>by
          have e:catR (visC (e.kids.take k) (0,0,true) (c,fol)).1 (visE (e.kids.getD k default) (visC (e.kids.take k) (0,0,true) (c,fol)).2).1=((visC (e.kids.take k) (0,0,true) (c,fol)).1.1,((visC (e.kids.take k) (0,0,true) (c,fol)).1.2.1 ||| (visE (e.kids.getD k default) (visC (e.kids.take k) (0,0,true) (c,fol)).2).1.2.1),false):=by simp only [catR,hc6,hc7,if_true,if_false,Bool.false_eq_true,reduceIte,Bool.true_and,Bool.false_and]
          rw [visC_next hkx,e]
          exact hw.pick [0,1,2,3] (by decide) rfl rfl))
        ·refine .skip ?_
         refine AK.then_ (hK33 _ ?_)
         refine .sr fun _ hK36=>?_
         refine .v (.fieldAddr fd94_1 rfl) (.v (.loadBox on42 rfl bsp rfl) (.v (.fieldAddr fd94_1 rfl) (.v (.loadBox on42 rfl bsp rfl) (.v (.orU rfl rfl) (.v (.fieldAddr fd94_1 rfl) ?_)))))
         refine AK.storeBox 3 (us:=[uv ((visC (e.kids.take k) (0,0,true) (c,fol)).1.2.1 ||| (visE (e.kids.getD k default) (visC (e.kids.take k) (0,0,true) (c,fol)).2).1.2.1)]) (cs':=[uv ((visC (e.kids.take k) (0,0,true) (c,fol)).1.1 ||| (visE (e.kids.getD k default) (visC (e.kids.take k) (0,0,true) (c,fol)).2).1.1),uv ((visC (e.kids.take k) (0,0,true) (c,fol)).1.2.1 ||| (visE (e.kids.getD k default) (visC (e.kids.take k) (0,0,true) (c,fol)).2).1.2.1),.bool (visC (e.kids.take k) (0,0,true) (c,fol)).1.2.2]) rfl sz42 rfl rfl rfl rfl oneP (leb rfl) rfl trivial ?_
         refine .nt hK36 ?_
         refine AK.region ?_
         refine .v (.fieldAddr fd94_2 rfl) (.v (.loadBox on4 rfl bsp rfl) (.mv rfl ?_))
         refine AK.knownT (g:=109) rfl (hc6) (fun hg_28_2=>?_)
         refine AK.val _ (Yl.fieldAddr fd94_2 rfl) ⟨_,rfl,gB hg_28_2⟩ rfl ?_
         refine AK.val _ (Yl.loadBox on4 rfl bsp rfl) ⟨_,rfl,gB hg_28_2⟩ rfl ?_
         refine .v (.pickT rfl (hg_28_2) rfl) (.v (.fieldAddr fd94_2 rfl) ?_)
         refine AK.storeBox 3 (us:=[.bool (visE (e.kids.getD k default) (visC (e.kids.take k) (0,0,true) (c,fol)).2).1.2.2]) (cs':=[uv ((visC (e.kids.take k) (0,0,true) (c,fol)).1.1 ||| (visE (e.kids.getD k default) (visC (e.kids.take k) (0,0,true) (c,fol)).2).1.1),uv ((visC (e.kids.take k) (0,0,true) (c,fol)).1.2.1 ||| (visE (e.kids.getD k default) (visC (e.kids.take k) (0,0,true) (c,fol)).2).1.2.1),.bool (visE (e.kids.getD k default) (visC (e.kids.take k) (0,0,true) (c,fol)).2).1.2.2]) rfl sz4 rfl rfl rfl rfl oneP (leb rfl) rfl trivial ?_
         refine .nil (.block_normal ?_)
         refine AK.then_ (hK27 _ ?_)
         refine AK.region ?_
         refine .v (.add rfl rfl (by omega)) ?_
         refine .mv rfl (.nil ?_)
         first | refine AK.then_ (hK24 _ _ (k+1) (by omega) (by omega) (slr) (fun w hw=>by
          have e:catR (visC (e.kids.take k) (0,0,true) (c,fol)).1 (visE (e.kids.getD k default) (visC (e.kids.take k) (0,0,true) (c,fol)).2).1=(((visC (e.kids.take k) (0,0,true) (c,fol)).1.1 ||| (visE (e.kids.getD k default) (visC (e.kids.take k) (0,0,true) (c,fol)).2).1.1),((0:W64) ||| (visE (e.kids.getD k default) (visC (e.kids.take k) (0,0,true) (c,fol)).2).1.2.1),(visE (e.kids.getD k default) (visC (e.kids.take k) (0,0,true) (c,fol)).2).1.2.2):=by simp only [catR,hc6,hc7,if_true,if_false,Bool.false_eq_true,reduceIte,Bool.true_and,Bool.false_and]
          rw [visC_next hkx,e]
          exact hw.pick [0,1,2,3] (by decide) rfl rfl)) | refine AK.then_ (hK24 _ _ (k+1) (by omega) (by omega) (slr) (fun w hw=>by
          have e:catR (visC (e.kids.take k) (0,0,true) (c,fol)).1 (visE (e.kids.getD k default) (visC (e.kids.take k) (0,0,true) (c,fol)).2).1=(((visC (e.kids.take k) (0,0,true) (c,fol)).1.1 ||| (visE (e.kids.getD k default) (visC (e.kids.take k) (0,0,true) (c,fol)).2).1.1),((visC (e.kids.take k) (0,0,true) (c,fol)).1.2.1 ||| (visE (e.kids.getD k default) (visC (e.kids.take k) (0,0,true) (c,fol)).2).1.2.1),(visE (e.kids.getD k default) (visC (e.kids.take k) (0,0,true) (c,fol)).2).1.2.2):=by simp only [catR,hc6,hc7,if_true,if_false,Bool.false_eq_true,reduceIte,Bool.true_and,Bool.false_and]
          rw [visC_next hkx,e]
          exact hw.pick [0,1,2,3] (by decide) rfl rfl)) | refine AK.then_ (hK24 _ _ (k+1) (by omega) (by omega) (slr) (fun w hw=>by
          have e:catR (visC (e.kids.take k) (0,0,true) (c,fol)).1 (visE (e.kids.getD k default) (visC (e.kids.take k) (0,0,true) (c,fol)).2).1=((visC (e.kids.take k) (0,0,true) (c,fol)).1.1,((0:W64) ||| (visE (e.kids.getD k default) (visC (e.kids.take k) (0,0,true) (c,fol)).2).1.2.1),false):=by simp only [catR,hc6,hc7,if_true,if_false,Bool.false_eq_true,reduceIte,Bool.true_and,Bool.false_and]
          rw [visC_next hkx,e]
          exact hw.pick [0,1,2,3] (by decide) rfl rfl)) | refine AK.then_ (hK24 _ _ (k+1) (by omega) (by omega) (slr) (fun w hw=>by
          have e:catR (visC (e.kids.take k) (0,0,true) (c,fol)).1 (visE (e.kids.getD k default) (visC (e.kids.take k) (0,0,true) (c,fol)).2).1=((visC (e.kids.take k) (0,0,true) (c,fol)).1.1,((visC (e.kids.take k) (0,0,true) (c,fol)).1.2.1 ||| (visE (e.kids.getD k default) (visC (e.kids.take k) (0,0,true) (c,fol)).2).1.2.1),false):=by simp only [catR,hc6,hc7,if_true,if_false,Bool.false_eq_true,reduceIte,Bool.true_and,Bool.false_and]
          rw [visC_next hkx,e]
          exact hw.pick [0,1,2,3] (by decide) rfl rfl))
       ·try simp only [bs] at hc6
        refine .skip ?_
        refine AK.then_ (hK31 _ ?_)
        refine .seq fun _ hK37=>?_
        refine .sr fun _ hK38=>?_
        refine .v (.fieldAddr fd94_2 rfl) (.v (.loadBox on4 rfl bsp rfl) (.v (.not rfl) (.nt hK38 ?_)))
        refine AK.condB rfl (fun hc7=>?_) (fun hc7=>?_)
        ·refine AK.region ?_
         refine .v (.fieldAddr fd94_1 rfl) ?_
         refine AK.storeBox 3 (us:=[uv 0]) (cs':=[uv (visC (e.kids.take k) (0,0,true) (c,fol)).1.1,uv 0,.bool (visC (e.kids.take k) (0,0,true) (c,fol)).1.2.2]) rfl sz42 rfl rfl rfl rfl oneP (leb rfl) rfl trivial ?_
         refine .nt hK37 ?_
         refine .sr fun _ hK39=>?_
         refine .v (.fieldAddr fd94_1 rfl) (.v (.loadBox on42 rfl bsp rfl) (.v (.fieldAddr fd94_1 rfl) (.v (.loadBox on42 rfl bsp rfl) (.v (.orU rfl rfl) (.v (.fieldAddr fd94_1 rfl) ?_)))))
         refine AK.storeBox 3 (us:=[uv ((0:W64) ||| (visE (e.kids.getD k default) (visC (e.kids.take k) (0,0,true) (c,fol)).2).1.2.1)]) (cs':=[uv (visC (e.kids.take k) (0,0,true) (c,fol)).1.1,uv ((0:W64) ||| (visE (e.kids.getD k default) (visC (e.kids.take k) (0,0,true) (c,fol)).2).1.2.1),.bool (visC (e.kids.take k) (0,0,true) (c,fol)).1.2.2]) rfl sz42 rfl rfl rfl rfl oneP (leb rfl) rfl trivial ?_
         refine .nt hK39 ?_
         refine AK.region ?_
         refine .v (.fieldAddr fd94_2 rfl) (.v (.loadBox on4 rfl bsp rfl) (.mv rfl ?_))
         refine AK.knownF (g:=109) rfl (hc6) (fun hg_28_2=>?_)
         refine AK.pass rfl rfl (hg_28_2) rfl ?_
         refine AK.pass rfl rfl (hg_28_2) rfl ?_
         refine .v (.pickF rfl (hg_28_2) rfl) (.v (.fieldAddr fd94_2 rfl) ?_)
         refine AK.storeBox 3 (us:=[.bool false]) (cs':=[uv (visC (e.kids.take k) (0,0,true) (c,fol)).1.1,uv ((0:W64) ||| (visE (e.kids.getD k default) (visC (e.kids.take k) (0,0,true) (c,fol)).2).1.2.1),.bool false]) rfl sz4 rfl rfl rfl rfl oneP (leb rfl) rfl trivial ?_
         refine .nil (.block_normal ?_)
         refine AK.then_ (hK27 _ ?_)
         refine AK.region ?_
         refine .v (.add rfl rfl (by omega)) ?_
         refine .mv rfl (.nil ?_)
         first | refine AK.then_ (hK24 _ _ (k+1) (by omega) (by omega) (slr) (fun w hw=>by
          have e:catR (visC (e.kids.take k) (0,0,true) (c,fol)).1 (visE (e.kids.getD k default) (visC (e.kids.take k) (0,0,true) (c,fol)).2).1=(((visC (e.kids.take k) (0,0,true) (c,fol)).1.1 ||| (visE (e.kids.getD k default) (visC (e.kids.take k) (0,0,true) (c,fol)).2).1.1),((0:W64) ||| (visE (e.kids.getD k default) (visC (e.kids.take k) (0,0,true) (c,fol)).2).1.2.1),(visE (e.kids.getD k default) (visC (e.kids.take k) (0,0,true) (c,fol)).2).1.2.2):=by simp only [catR,hc6,hc7,if_true,if_false,Bool.false_eq_true,reduceIte,Bool.true_and,Bool.false_and]
          rw [visC_next hkx,e]
          exact hw.pick [0,1,2,3] (by decide) rfl rfl)) | refine AK.then_ (hK24 _ _ (k+1) (by omega) (by omega) (slr) (fun w hw=>by
          have e:catR (visC (e.kids.take k) (0,0,true) (c,fol)).1 (visE (e.kids.getD k default) (visC (e.kids.take k) (0,0,true) (c,fol)).2).1=(((visC (e.kids.take k) (0,0,true) (c,fol)).1.1 ||| (visE (e.kids.getD k default) (visC (e.kids.take k) (0,0,true) (c,fol)).2).1.1),((visC (e.kids.take k) (0,0,true) (c,fol)).1.2.1 ||| (visE (e.kids.getD k default) (visC (e.kids.take k) (0,0,true) (c,fol)).2).1.2.1),(visE (e.kids.getD k default) (visC (e.kids.take k) (0,0,true) (c,fol)).2).1.2.2):=by simp only [catR,hc6,hc7,if_true,if_false,Bool.false_eq_true,reduceIte,Bool.true_and,Bool.false_and]
          rw [visC_next hkx,e]
          exact hw.pick [0,1,2,3] (by decide) rfl rfl)) | refine AK.then_ (hK24 _ _ (k+1) (by omega) (by omega) (slr) (fun w hw=>by
          have e:catR (visC (e.kids.take k) (0,0,true) (c,fol)).1 (visE (e.kids.getD k default) (visC (e.kids.take k) (0,0,true) (c,fol)).2).1=((visC (e.kids.take k) (0,0,true) (c,fol)).1.1,((0:W64) ||| (visE (e.kids.getD k default) (visC (e.kids.take k) (0,0,true) (c,fol)).2).1.2.1),false):=by simp only [catR,hc6,hc7,if_true,if_false,Bool.false_eq_true,reduceIte,Bool.true_and,Bool.false_and]
          rw [visC_next hkx,e]
          exact hw.pick [0,1,2,3] (by decide) rfl rfl)) | refine AK.then_ (hK24 _ _ (k+1) (by omega) (by omega) (slr) (fun w hw=>by
          have e:catR (visC (e.kids.take k) (0,0,true) (c,fol)).1 (visE (e.kids.getD k default) (visC (e.kids.take k) (0,0,true) (c,fol)).2).1=((visC (e.kids.take k) (0,0,true) (c,fol)).1.1,((visC (e.kids.take k) (0,0,true) (c,fol)).1.2.1 ||| (visE (e.kids.getD k default) (visC (e.kids.take k) (0,0,true) (c,fol)).2).1.2.1),false):=by simp only [catR,hc6,hc7,if_true,if_false,Bool.false_eq_true,reduceIte,Bool.true_and,Bool.false_and]
          rw [visC_next hkx,e]
          exact hw.pick [0,1,2,3] (by decide) rfl rfl))
        ·refine .skip ?_
         refine AK.then_ (hK37 _ ?_)
         refine .sr fun _ hK40=>?_
         refine .v (.fieldAddr fd94_1 rfl) (.v (.loadBox on42 rfl bsp rfl) (.v (.fieldAddr fd94_1 rfl) (.v (.loadBox on42 rfl bsp rfl) (.v (.orU rfl rfl) (.v (.fieldAddr fd94_1 rfl) ?_)))))
         refine AK.storeBox 3 (us:=[uv ((visC (e.kids.take k) (0,0,true) (c,fol)).1.2.1 ||| (visE (e.kids.getD k default) (visC (e.kids.take k) (0,0,true) (c,fol)).2).1.2.1)]) (cs':=[uv (visC (e.kids.take k) (0,0,true) (c,fol)).1.1,uv ((visC (e.kids.take k) (0,0,true) (c,fol)).1.2.1 ||| (visE (e.kids.getD k default) (visC (e.kids.take k) (0,0,true) (c,fol)).2).1.2.1),.bool (visC (e.kids.take k) (0,0,true) (c,fol)).1.2.2]) rfl sz42 rfl rfl rfl rfl oneP (leb rfl) rfl trivial ?_
         refine .nt hK40 ?_
         refine AK.region ?_
         refine .v (.fieldAddr fd94_2 rfl) (.v (.loadBox on4 rfl bsp rfl) (.mv rfl ?_))
         refine AK.knownF (g:=109) rfl (hc6) (fun hg_28_2=>?_)
         refine AK.pass rfl rfl (hg_28_2) rfl ?_
         refine AK.pass rfl rfl (hg_28_2) rfl ?_
         refine .v (.pickF rfl (hg_28_2) rfl) (.v (.fieldAddr fd94_2 rfl) ?_)
         refine AK.storeBox 3 (us:=[.bool false]) (cs':=[uv (visC (e.kids.take k) (0,0,true) (c,fol)).1.1,uv ((visC (e.kids.take k) (0,0,true) (c,fol)).1.2.1 ||| (visE (e.kids.getD k default) (visC (e.kids.take k) (0,0,true) (c,fol)).2).1.2.1),.bool false]) rfl sz4 rfl rfl rfl rfl oneP (leb rfl) rfl trivial ?_
         refine .nil (.block_normal ?_)
         refine AK.then_ (hK27 _ ?_)
         refine AK.region ?_
         refine .v (.add rfl rfl (by omega)) ?_
         refine .mv rfl (.nil ?_)
         first | refine AK.then_ (hK24 _ _ (k+1) (by omega) (by omega) (slr) (fun w hw=>by
          have e:catR (visC (e.kids.take k) (0,0,true) (c,fol)).1 (visE (e.kids.getD k default) (visC (e.kids.take k) (0,0,true) (c,fol)).2).1=(((visC (e.kids.take k) (0,0,true) (c,fol)).1.1 ||| (visE (e.kids.getD k default) (visC (e.kids.take k) (0,0,true) (c,fol)).2).1.1),((0:W64) ||| (visE (e.kids.getD k default) (visC (e.kids.take k) (0,0,true) (c,fol)).2).1.2.1),(visE (e.kids.getD k default) (visC (e.kids.take k) (0,0,true) (c,fol)).2).1.2.2):=by simp only [catR,hc6,hc7,if_true,if_false,Bool.false_eq_true,reduceIte,Bool.true_and,Bool.false_and]
          rw [visC_next hkx,e]
          exact hw.pick [0,1,2,3] (by decide) rfl rfl)) | refine AK.then_ (hK24 _ _ (k+1) (by omega) (by omega) (slr) (fun w hw=>by
          have e:catR (visC (e.kids.take k) (0,0,true) (c,fol)).1 (visE (e.kids.getD k default) (visC (e.kids.take k) (0,0,true) (c,fol)).2).1=(((visC (e.kids.take k) (0,0,true) (c,fol)).1.1 ||| (visE (e.kids.getD k default) (visC (e.kids.take k) (0,0,true) (c,fol)).2).1.1),((visC (e.kids.take k) (0,0,true) (c,fol)).1.2.1 ||| (visE (e.kids.getD k default) (visC (e.kids.take k) (0,0,true) (c,fol)).2).1.2.1),(visE (e.kids.getD k default) (visC (e.kids.take k) (0,0,true) (c,fol)).2).1.2.2):=by simp only [catR,hc6,hc7,if_true,if_false,Bool.false_eq_true,reduceIte,Bool.true_and,Bool.false_and]
          rw [visC_next hkx,e]
          exact hw.pick [0,1,2,3] (by decide) rfl rfl)) | refine AK.then_ (hK24 _ _ (k+1) (by omega) (by omega) (slr) (fun w hw=>by
          have e:catR (visC (e.kids.take k) (0,0,true) (c,fol)).1 (visE (e.kids.getD k default) (visC (e.kids.take k) (0,0,true) (c,fol)).2).1=((visC (e.kids.take k) (0,0,true) (c,fol)).1.1,((0:W64) ||| (visE (e.kids.getD k default) (visC (e.kids.take k) (0,0,true) (c,fol)).2).1.2.1),false):=by simp only [catR,hc6,hc7,if_true,if_false,Bool.false_eq_true,reduceIte,Bool.true_and,Bool.false_and]
          rw [visC_next hkx,e]
          exact hw.pick [0,1,2,3] (by decide) rfl rfl)) | refine AK.then_ (hK24 _ _ (k+1) (by omega) (by omega) (slr) (fun w hw=>by
          have e:catR (visC (e.kids.take k) (0,0,true) (c,fol)).1 (visE (e.kids.getD k default) (visC (e.kids.take k) (0,0,true) (c,fol)).2).1=((visC (e.kids.take k) (0,0,true) (c,fol)).1.1,((visC (e.kids.take k) (0,0,true) (c,fol)).1.2.1 ||| (visE (e.kids.getD k default) (visC (e.kids.take k) (0,0,true) (c,fol)).2).1.2.1),false):=by simp only [catR,hc6,hc7,if_true,if_false,Bool.false_eq_true,reduceIte,Bool.true_and,Bool.false_and]
          rw [visC_next hkx,e]
          exact hw.pick [0,1,2,3] (by decide) rfl rfl))
      ·have hkx:k=e.kids.length:=by omega
       refine .exit (.then_exit (.then_exit (.block_exit ?_)))
       refine AK.then_ (hK22 _ ?_)
       refine .sr fun _ hK41=>?_
       refine .v (.loadBoxG ag94 rfl bsp rfl rfl) ?_
       refine AK.storeBox 2 (us:=[uv (visC (e.kids.take k) (0,0,true) (c,fol)).1.1,uv (visC (e.kids.take k) (0,0,true) (c,fol)).1.2.1,.bool (visC (e.kids.take k) (0,0,true) (c,fol)).1.2.2]) (cs':=[uv (visC (e.kids.take k) (0,0,true) (c,fol)).1.1,uv (visC (e.kids.take k) (0,0,true) (c,fol)).1.2.1,.bool (visC (e.kids.take k) (0,0,true) (c,fol)).1.2.2]) rfl sz94 rfl rfl rfl rfl oneP (leb rfl) rfl trivial ?_
       refine .nt hK41 (.ret (.block_ret (.then_ret ?_)))
       refine AK.retG [.cell 4 94] rfl (.cons (.cell ag94 rfl bsp rfl rfl) (.nil)) (fun w hw=>⟨_,_,_,?_,rfl,Ret.of (hw.pick [0] (by decide) rfl rfl)⟩)
       rw [hkx,List.take_length] at *
       rw [visE_eq e (c,fol),if_neg (by simpa using hc0),if_neg (by simpa using hc1),if_neg (by simpa using hc2),if_pos (by simpa using hc4)]
       exact ⟨rfl,rfl,rfl⟩
    ·refine .sr fun _ hK42=>?_
     refine .v (.eql rfl rfl) (.as rfl (.nt hK42 ?_))
     refine AK.condD rfl (fun hc8=>?_) (fun hc8=>?_)
     ·have h1k:e.kids.length=1:=wf_star hw6 (.inl (by simpa using hc8))
      have sk:=(hk 0 (by omega)).sl
      have hop:¬ e.op=3:=by omega
      have hle:ltsE e=ltsE (e.kids.getD 0 default):=by rw [ltsE_eq,if_neg hop];exact lts_one h1k
      rw [hle] at hz
      have hbk:=vis_bd (e.kids.getD 0 default) (c,fol) (by dsimp only;omega)
      refine .sr fun _ hK43=>?_
      refine .mv rfl (.v (.fieldAddr fd24_2 rfl) (.v (.loadBox on22 rfl bsp rfl) ?_))
      refine .v (.idxN (k:=0) sl22 rfl rfl rdp (by decide) (by omega)) ?_
      refine .v (.loadE ag24 rfl rdp (by assumption) rfl (by omega)) ?_
      refine AK.callN 0 rfl co55 rfl (fun w Fs hw hh hfr hal=>ih 0 (by omega) w (Fs 0) pb v N c fol hN h64 sv (hT.at hw hF) (fun hb=>by rcases hal 0 0 hb with h | h;exact absurd hT.lt (Nat.not_lt.2 h);exact hF h) (hh.at_ 0 _ rfl) _ ((hk 0 (by omega)).atN hfr hal 0) hz (wf_kid hw6 (by omega))) trivial rfl ?_
      rintro r A o ⟨rfl,rfl,rfl⟩
      refine AK.alloc el94 rfl rfl trivial rfl (fun bx13=>?_)
      refine AK.storeBox 3 (us:=[uv (visE (e.kids.getD 0 default) (c,fol)).1.1,uv (visE (e.kids.getD 0 default) (c,fol)).1.2.1,.bool (visE (e.kids.getD 0 default) (c,fol)).1.2.2]) (cs':=[uv (visE (e.kids.getD 0 default) (c,fol)).1.1,uv (visE (e.kids.getD 0 default) (c,fol)).1.2.1,.bool (visE (e.kids.getD 0 default) (c,fol)).1.2.2]) rfl sz94 rfl rfl rfl rfl oneP (leb rfl) rfl trivial ?_
      refine .nt hK43 ?_
      refine .sr fun _ hK44=>?_
      refine .mv rfl (.v (.fieldAddr fd94_1 rfl) (.v (.loadBox on42 rfl bsp rfl) (.v (.fieldAddr fd94_0 rfl) (.v (.loadBox on42 rfl bsp rfl) ?_))))
      refine AK.callN 0 rfl co107 rfl (fun w Fs hw hh hfr hal=>a_join w (Fs 0) pb v N (visE (e.kids.getD 0 default) (c,fol)).2.1 (visE (e.kids.getD 0 default) (c,fol)).2.2 (hbk.len.trans hN) h64 sv (hT.at hw hF) (fun hb=>by rcases hal 0 0 hb with h | h;exact absurd hT.lt (Nat.not_lt.2 h);exact hF h) (hh.at_ 0 _ rfl) (visE (e.kids.getD 0 default) (c,fol)).1.2.1 (visE (e.kids.getD 0 default) (c,fol)).1.1 (fun i hi=>by have h1:=hbk.la i hi;have h3:=hbk.hi;dsimp only at h3;omega)) trivial rfl ?_
      rintro r A o ⟨rfl,rfl⟩
      refine .nt hK44 ?_
      refine .sr fun _ hK45=>?_
      refine .v (.fieldAddr fd94_2 rfl) ?_
      refine AK.storeBox 3 (us:=[.bool true]) (cs':=[uv (visE (e.kids.getD 0 default) (c,fol)).1.1,uv (visE (e.kids.getD 0 default) (c,fol)).1.2.1,.bool true]) rfl sz4 rfl rfl rfl rfl oneP (leb rfl) rfl trivial ?_
      refine .nt hK45 ?_
      refine .sr fun _ hK46=>?_
      refine .v (.loadBoxG ag94 rfl bsp rfl rfl) ?_
      refine AK.storeBox 2 (us:=[uv (visE (e.kids.getD 0 default) (c,fol)).1.1,uv (visE (e.kids.getD 0 default) (c,fol)).1.2.1,.bool true]) (cs':=[uv (visE (e.kids.getD 0 default) (c,fol)).1.1,uv (visE (e.kids.getD 0 default) (c,fol)).1.2.1,.bool true]) rfl sz94 rfl rfl rfl rfl oneP (leb rfl) rfl trivial ?_
      refine .nt hK46 (.ret (.block_ret (.then_ret ?_)))
      refine AK.retG [.cell 4 94] rfl (.cons (.cell ag94 rfl bsp rfl rfl) (.nil)) (fun w hw=>⟨_,_,_,?_,rfl,Ret.of (hw.pick [0] (by decide) rfl rfl)⟩)
      rw [visE_eq e (c,fol),if_neg (by simpa using hc0),if_neg (by simpa using hc1),if_neg (by simpa using hc2),if_neg (by simpa using hc4),if_pos (by simpa using hc8),visS_one h1k]
      exact ⟨rfl,rfl,rfl⟩
     ·refine .skip (.block_normal ?_)
      refine AK.then_ (hK2 _ ?_)
      refine .sr fun _ hK47=>?_
      refine .v (.build (parts:=[]) (cs:=#[uv 0,uv 0,.bool false]) rfl (by kernel_rfl)) ?_
      refine AK.storeBox 2 (us:=[uv 0,uv 0,.bool false]) (cs':=[uv 0,uv 0,.bool false]) rfl sz94 rfl rfl rfl rfl oneP (leb rfl) rfl trivial ?_
      refine .nt hK47 (.ret ?_)
      refine AK.retG [.cell 4 94] rfl (.cons (.cell ag94 rfl bsp rfl rfl) (.nil)) (fun w hw=>⟨_,_,_,?_,rfl,Ret.of (hw.pick [0] (by decide) rfl rfl)⟩)
      rw [visE_eq e (c,fol),if_neg (by simpa using hc0),if_neg (by simpa using hc1),if_neg (by simpa using hc2),if_neg (by simpa using hc4),if_neg (by simpa using hc8)]
      exact ⟨rfl,rfl,rfl⟩
end Go.Proofs.YtbibnpdnmmgacaaGreatDoor
namespace Go.Proofs.YtbibnpdnmmgacaaGreatDoor
open Go.Sx Go.RowKit
theorem wf_two {n:Int} {e:Ex} (h:wfE n e=true) (ho:e.op=4∨e.op=5∨e.op=6):2≤e.kids.length:=by
 obtain ⟨op,lt,ks⟩:=e
 have ho:op=4∨op=5∨op=6:=ho
 rcases wf_cases h with ⟨h3,_⟩ | ⟨_,(⟨h3,_⟩ | ⟨_,h3,_⟩ | ⟨h3,_⟩)⟩
 ·omega
 ·omega
 ·exact h3
 ·omega
theorem leaf_visitg (e:Ex) (s:Value) (wd:List UInt8) (hl:wd.length≤62) (hv:validW 6 wd=true) (bm be br:Nat) (vr:Value) (x:W64) (hxb:∀ i,x.getLsbD i=true→i≤wd.length) (w:World) (F:Nat→Prop) (A:Asn) (pre:List Nat) (i:Nat) (post:List Nat) (hp:pre++i :: post=mems x) (hJ:(fun (l:List Nat) (A:Asn)=>∃ (vs:List Value) (xss:List (List W64)),RowsJ (wd.length+1) [] (fun _=>0) (leafS e wd) l vs xss∧A=bigA [box bm 75 1 [sv wd],box be 24 3 [.int .i64 e.op,.int .i64 e.lt,s],box br 79 1 [vr],row vr 76 1 (wd.length+1) vs,bigA (matG uv 42 vs xss)]) pre A) (hA:A.holds w F) :
  CallM Tryz.prog 96 [.int .i64 (i:Int),.pointer (some ⟨bm,0,none⟩),.pointer (some ⟨br,0,none⟩),.pointer (some ⟨be,0,none⟩)] w F (fun r A' o=>(fun (l:List Nat) (A:Asn)=>∃ (vs:List Value) (xss:List (List W64)),RowsJ (wd.length+1) [] (fun _=>0) (leafS e wd) l vs xss∧A=bigA [box bm 75 1 [sv wd],box be 24 3 [.int .i64 e.op,.int .i64 e.lt,s],box br 79 1 [vr],row vr 76 1 (wd.length+1) vs,bigA (matG uv 42 vs xss)]) (pre++[i]) A'∧o=[]):=by
 obtain ⟨vs,xss,hj,rfl⟩:=hJ
 obtain ⟨h1,h2,_⟩:=mems_split hp
 have hi:=hxb i (mem_mems.1 h2)
 refine (s_ends1g w F e s wd hl hv i hi bm be br vr vs xss hj.vl hj.xl hA).mono ?_
 rintro E w' ⟨v,A',own',⟨nv,snv,hA',ho⟩,g1,g2⟩
 exact ⟨v,A',own',⟨⟨_,_,hj.step (by omega) snv h1,hA'⟩,ho⟩,g1,g2⟩
set_option maxHeartbeats 4000000 in
theorem s_endsg_step (e:Ex) (ih:∀ i,i<e.kids.length→EndsS (e.kids.getD i default)) (w:World) (s:Value) (h:RdK (cellR (fun _=>False) w) s e.kids) (wd:List UInt8) (hl:wd.length≤62) (hv:validW 6 wd=true) (hw6:wfE 6 e=true) (f:Value) (x:W64) (hxb:∀ i,x.getLsbD i=true→i≤wd.length) (hr:RdL (fun _=>False) uv w f [x]) (hT:TbA w):CallS Tryz.prog 41 [.agg #[sv wd],.agg #[.int .i64 e.op,.int .i64 e.lt,s],f] w (fun r o=>∃ (vs:List Value) (xss:List (List W64)),RowsJ (wd.length+1) (mems x) (mP wd (LE e)) (fun _=>0) [] vs xss∧IsSl r∧o=[row r 76 1 (wd.length+1) vs,bigA (matG uv 42 vs xss)]):=by
 obtain ⟨ss,hls,hx,hk⟩:=h.inv
 have hrd:=hx.rd
 have hm:=hrd.le
 have st:=h.sl
 have sf:IsSl f:=Rd.sl hr
 refine spec_of Tryz.func41 rfl (leb rfl) ?_
 refine .sr fun _ hK1=>?_
 refine AK.box_ (E:=75) (cs:=[sv wd]) rfl rfl rfl trivial rfl (fun bx3=>?_)
 refine AK.box_ (E:=24) (cs:=[.int .i64 e.op,.int .i64 e.lt,s]) rfl rfl rfl trivial rfl (fun bx4=>?_)
 refine .as rfl (.nt hK1 ?_)
 refine .seq fun _ hK2=>?_
 refine .sr fun _ hK3=>?_
 refine .v (.fieldAddr fd24_0 rfl) (.v (.loadBox on3 rfl bsp rfl) (.nt hK3 (.block ?_)))
 refine .sr fun _ hK4=>?_
 refine .v (.eql rfl rfl) (.as rfl (.nt hK4 ?_))
 refine AK.condD rfl (fun hc0=>?_) (fun hc0=>?_)
 ·have hk2:2≤e.kids.length:=wf_two hw6 (by omega)
  refine .sr fun _ hK5=>?_
  refine .v (.loadBoxG ag75 rfl bsp rfl rfl) (.v (.fieldAddr fd24_2 rfl) (.v (.loadBox on22 rfl bsp rfl) (.mv rfl ?_)))
  refine AK.call co91 rfl (fun w hw=>s_concat e ih w s (h.at hw) wd hl hv hw6 (by omega) hk2 f x hxb (hr.at hw) (hT.at hw)) trivial rfl ?_
  rintro rv o ⟨vs1,xss1,hj1,srv,rfl⟩
  refine .as rfl (.nt hK5 (.ret (.block_ret (.then_ret ?_))))
  refine AK.ret1 rfl rfl (fun w hw=>⟨_,_,?_,rfl,Ret.of (hw.pick [2,3] (by decide) rfl rfl)⟩)
  exact ⟨vs1,xss1,hj1,srv,rfl⟩
 ·refine .sr fun _ hK6=>?_
  refine .v (.eql rfl rfl) (.as rfl (.nt hK6 ?_))
  refine AK.condD rfl (fun hc1=>?_) (fun hc1=>?_)
  ·have h1k:e.kids.length=1:=wf_star hw6 (by first | exact .inl (by omega) | exact .inr (by omega))
   have sk:=(hk 0 (by omega)).sl
   have hk1:=one_list h1k
   refine .seq fun _ hK7=>?_
   try (conv=>enter [2,2];simp only [nrm])
   refine AK.held 6 mixed ?_
   refine HeldK.first 0 (fuel:=7) (listed':=(lb 8 1)) _ rfl krf krf rfl (Yl.loadBoxG ag75 rfl bsp rfl rfl) trivial rfl ?_
   refine HeldK.first 1 (fuel:=6) (listed':=(lb 8 3)) _ rfl krf krf rfl (Yl.fieldAddr fd24_2 rfl) trivial rfl ?_
   refine HeldK.first 2 (fuel:=5) (listed':=(lb 8 7)) _ rfl krf krf rfl (Yl.loadBox on22 rfl bsp rfl) trivial rfl ?_
   refine HeldK.first 3 (fuel:=4) (listed':=(lb 8 15)) _ rfl krf krf rfl (Yl.idxN (k:=0) sl22 rfl rfl rdp (by decide) (by omega)) trivial rfl ?_
   refine HeldK.first 4 (fuel:=3) (listed':=(lb 8 31)) _ rfl krf krf rfl (Yl.loadE ag24 rfl rdp hls rfl (by omega)) trivial rfl ?_
   refine HeldK.first 5 (fuel:=2) (listed':=(lb 8 63)) _ rfl krf krf rfl (Yl.move rfl) trivial rfl ?_
   refine HeldK.one 6 (fuel:=1) (listed':=(lb 8 127)) krf rfl krf ?_
   refine AK.call co92 rfl (fun w hw=>s_star (e.kids.getD 0 default) (ih 0 (by omega)) w _ ((hk 0 (by omega)).at hw) wd hl hv (wf_kid hw6 (by omega)) f x hxb (hr.at hw) (hT.at hw)) trivial rfl ?_
   rintro rv o ⟨vs1,xss1,hj1,srv,rfl⟩
   refine .nil ?_
   try (conv=>enter [2,2];simp only [nrm])
   refine HeldK.backN 7 krf rfl krf ?_
   refine .as rfl (.nil ?_)
   refine AK.fromQn ?_
   refine AK.then_ (hK7 _ ?_)
   refine .ret (.block_ret (.then_ret ?_))
   refine AK.ret1 rfl rfl (fun w hw=>⟨_,_,?_,rfl,Ret.of (hw.pick [2,3] (by decide) rfl rfl)⟩)
   exact ⟨vs1,xss1,hj1.re (fun i _=>mP_congr hl fun l=>by rw [LE7 (by omega),hk1];exact ⟨StarL.mono fun l h=>LEany_one.2 h,StarL.mono fun l h=>LEany_one.1 h⟩),srv,rfl⟩
  ·refine .seq fun _ hK8=>?_
   refine .sr fun _ hK9=>?_
   refine .v (.eql rfl rfl) (.as rfl (.nt hK9 ?_))
   refine AK.condD rfl (fun hc2=>?_) (fun hc2=>?_)
   ·refine .skip ?_
    refine AK.then_ (hK8 _ ?_)
    refine AK.cond_t rfl (decide_eq_true hc2) ?_
    have hk2:2≤e.kids.length:=wf_two hw6 (by omega)
    have ho46:e.op=4∨e.op=6:=by omega
    refine .sr fun _ hK10=>?_
    refine .v (.loadBoxG ag75 rfl bsp rfl rfl) (.v (.loadBoxG ag24 rfl bsp rfl rfl) (.mv rfl ?_))
    refine AK.call co93 rfl (fun w hw=>s_combine e ih w s (h.at hw) wd hl hv hw6 ho46 hk2 f x hxb (hr.at hw) (hT.at hw)) trivial rfl ?_
    rintro rv o ⟨vs1,xss1,hj1,srv,rfl⟩
    refine .as rfl (.nt hK10 (.ret (.block_ret (.then_ret ?_))))
    refine AK.ret1 rfl rfl (fun w hw=>⟨_,_,?_,rfl,Ret.of (hw.pick [2,3] (by decide) rfl rfl)⟩)
    exact ⟨vs1,xss1,hj1,srv,rfl⟩
   ·refine AK.region ?_
    refine .v (.eql rfl rfl) (.as rfl (.nt hK8 ?_))
    refine AK.condD rfl (fun hc3=>?_) (fun hc3=>?_)
    ·have hk2:2≤e.kids.length:=wf_two hw6 (by omega)
     have ho46:e.op=4∨e.op=6:=by omega
     refine .sr fun _ hK11=>?_
     refine .v (.loadBoxG ag75 rfl bsp rfl rfl) (.v (.loadBoxG ag24 rfl bsp rfl rfl) (.mv rfl ?_))
     refine AK.call co93 rfl (fun w hw=>s_combine e ih w s (h.at hw) wd hl hv hw6 ho46 hk2 f x hxb (hr.at hw) (hT.at hw)) trivial rfl ?_
     rintro rv o ⟨vs1,xss1,hj1,srv,rfl⟩
     refine .as rfl (.nt hK11 (.ret (.block_ret (.then_ret ?_))))
     refine AK.ret1 rfl rfl (fun w hw=>⟨_,_,?_,rfl,Ret.of (hw.pick [2,3] (by decide) rfl rfl)⟩)
     exact ⟨vs1,xss1,hj1,srv,rfl⟩
    ·refine .sr fun _ hK12=>?_
     refine .v (.eql rfl rfl) (.as rfl (.nt hK12 ?_))
     refine AK.condD rfl (fun hc4=>?_) (fun hc4=>?_)
     ·have h1k:e.kids.length=1:=wf_star hw6 (by first | exact .inl (by omega) | exact .inr (by omega))
      have sk:=(hk 0 (by omega)).sl
      have hk1:=one_list h1k
      refine .seq fun _ hK13=>?_
      try (conv=>enter [2,2];simp only [nrm])
      refine AK.held 6 mixed ?_
      refine HeldK.first 0 (fuel:=7) (listed':=(lb 8 1)) _ rfl krf krf rfl (Yl.loadBoxG ag75 rfl bsp rfl rfl) trivial rfl ?_
      refine HeldK.first 1 (fuel:=6) (listed':=(lb 8 3)) _ rfl krf krf rfl (Yl.fieldAddr fd24_2 rfl) trivial rfl ?_
      refine HeldK.first 2 (fuel:=5) (listed':=(lb 8 7)) _ rfl krf krf rfl (Yl.loadBox on22 rfl bsp rfl) trivial rfl ?_
      refine HeldK.first 3 (fuel:=4) (listed':=(lb 8 15)) _ rfl krf krf rfl (Yl.idxN (k:=0) sl22 rfl rfl rdp (by decide) (by omega)) trivial rfl ?_
      refine HeldK.first 4 (fuel:=3) (listed':=(lb 8 31)) _ rfl krf krf rfl (Yl.loadE ag24 rfl rdp hls rfl (by omega)) trivial rfl ?_
      refine HeldK.first 5 (fuel:=2) (listed':=(lb 8 63)) _ rfl krf krf rfl (Yl.move rfl) trivial rfl ?_
      refine HeldK.one 6 (fuel:=1) (listed':=(lb 8 127)) krf rfl krf ?_
      refine AK.call co94 rfl (fun w hw=>s_compl (e.kids.getD 0 default) (ih 0 (by omega)) w _ ((hk 0 (by omega)).at hw) wd hl hv (wf_kid hw6 (by omega)) f x hxb (hr.at hw) (hT.at hw)) trivial rfl ?_
      rintro rv o ⟨vs1,xss1,hj1,srv,rfl⟩
      refine .nil ?_
      try (conv=>enter [2,2];simp only [nrm])
      refine HeldK.backN 7 krf rfl krf ?_
      refine .as rfl (.nil ?_)
      refine AK.fromQn ?_
      refine AK.then_ (hK13 _ ?_)
      refine .ret (.block_ret (.then_ret ?_))
      refine AK.ret1 rfl rfl (fun w hw=>⟨_,_,?_,rfl,Ret.of (hw.pick [2,3] (by decide) rfl rfl)⟩)
      exact ⟨vs1,xss1,hj1.re (fun i _=>mP_congr hl fun l=>⟨fun h=>(LE8 (e:=e) (by omega) l).2 (by rw [hk1];exact fun h2=>h (LEany_one.1 h2)),fun h h2=>by have h3:=(LE8 (e:=e) (by omega) l).1 h;rw [hk1] at h3;exact h3 (LEany_one.2 h2)⟩),srv,rfl⟩
     ·have hlf:leafOp e:=⟨by omega,by omega,by omega,by omega,by omega⟩
      refine .skip (.block_normal ?_)
      refine AK.then_ (hK2 _ ?_)
      refine .sr fun _ hK14=>?_
      refine .v (.fieldAddr fd75_0 rfl) (.v (.loadBox on9 rfl bsp rfl) (.v (.lenS un9 rfl) ?_))
      refine AK.val (.int .i64 ((wd.length+1:Nat):Int)) (Yl.addE (wd.length+1) rfl rfl (by omega) (by omega)) trivial rfl ?_
      refine AK.make1 sl79 el76 rfl rfl rfl (by omega) (by omega) trivial rfl (fun mv0=>?_)
      refine AK.shape 2 rfl (fun smv=>?_)
      refine AK.alloc el79 rfl rfl trivial rfl (fun bx7=>?_)
      refine AK.storeBox 3 (us:=[mv0]) (cs':=[mv0]) rfl sz79 rfl rfl (by rw [IsSl.cells smv]) rfl oneP (leb rfl) rfl trivial ?_
      refine .nt hK14 ?_
      refine .sr fun _ hK15=>?_
      refine .mv rfl (.v (.makeFunc (first:=[]) (captured:=[.tmp 3,.tmp 7,.tmp 4]) rfl rfl) ?_)
      refine AK.own' [bigA [box bx3 75 1 [sv wd],box bx4 24 3 [.int .i64 e.op,.int .i64 e.lt,s],box bx7 79 1 [mv0],row mv0 76 1 (wd.length+1) (List.replicate (wd.length+1) (.slice none 0 0)),bigA (matG uv 42 (List.replicate (wd.length+1) (.slice none 0 0)) (List.replicate (wd.length+1) ([]:List W64)))]] (fun w hw=>by have h0:=hw.ghostU 42 (wd.length+1);have h:=HW.unflat (l:=[_,_,_,_,_]) (own:=[]) (h0.pick [0,1,3,2,4] (by decide) rfl rfl);exact h) ?_
      refine AK.callN 0 rfl co95 rfl (fun w Fs hw hh hfr hal=>s_oeach w (Fs 0) (fun (l:List Nat) (A:Asn)=>∃ (vs:List Value) (xss:List (List W64)),RowsJ (wd.length+1) [] (fun _=>0) (leafS e wd) l vs xss∧A=bigA [box bx3 75 1 [sv wd],box bx4 24 3 [.int .i64 e.op,.int .i64 e.lt,s],box bx7 79 1 [mv0],row mv0 76 1 (wd.length+1) vs,bigA (matG uv 42 vs xss)]) (bigA [box bx3 75 1 [sv wd],box bx4 24 3 [.int .i64 e.op,.int .i64 e.lt,s],box bx7 79 1 [mv0],row mv0 76 1 (wd.length+1) (List.replicate (wd.length+1) (.slice none 0 0)),bigA (matG uv 42 (List.replicate (wd.length+1) (.slice none 0 0)) (List.replicate (wd.length+1) ([]:List W64)))]) ⟨_,_,RowsJ.nils _ _ _,rfl⟩ (hh.at_ 0 _ rfl) f x (RdL.off (f:=uv) (xs:=[x]) hr hfr hal) (hT.at hw) (fun h0=>by rcases hal 0 0 h0 with h | h;exact absurd h (Nat.not_le.2 hT.lt);exact h) 96 [.pointer (some ⟨bx3,0,none⟩),.pointer (some ⟨bx7,0,none⟩),.pointer (some ⟨bx4,0,none⟩)] co96 (fun w' F' A pre i post hp hJ hA _ _=>leaf_visitg e s wd hl hv bx3 bx4 bx7 mv0 x hxb w' F' A pre i post hp hJ hA)) trivial rfl ?_
      rintro r A o ⟨⟨vs1,xss1,hj1,rfl⟩,rfl⟩
      refine AK.flat0 rfl ?_
      refine .nt hK15 ?_
      refine .sr fun _ hK16=>?_
      refine .v (.loadBox on79 rfl bsp rfl) (.as rfl (.nt hK16 (.ret ?_)))
      refine AK.ret1 rfl rfl (fun w hw=>⟨_,_,?_,rfl,Ret.of (hw.pick [3,4] (by decide) rfl rfl)⟩)
      exact ⟨vs1,xss1,hj1.all (fun i hi=>leaf_mP hl hlf hw6 (by omega)),smv,rfl⟩
theorem s_endsg (e:Ex):EndsS e:=Ex.ind (P:=EndsS) (fun e ih w s h wd hl hv hw6 f x hxb hr hT=>s_endsg_step e ih w s h wd hl hv hw6 f x hxb hr hT) e
set_option maxHeartbeats 1000000 in
theorem s_matchg (w:World) (e:Ex) (s:Value) (h:RdK (cellR (fun _=>False) w) s e.kids) (wd:List UInt8) (hl:wd.length≤62) (hv:validW 6 wd=true) (he:validE e 6=0) (hT:TbA w):CallS Tryz.prog 10 [.agg #[.int .i64 e.op,.int .i64 e.lt,s],sv wd] w (fun r o=>r = .bool ((mP wd (LE e) 0).getLsbD wd.length)∧o=[]):=by
 have hw6:=(valid_sz he).2.1
 refine spec_of Tryz.func10 rfl (leb rfl) ?_
 refine .sr fun _ hK1=>?_
 refine AK.box_ (E:=24) (cs:=[.int .i64 e.op,.int .i64 e.lt,s]) rfl rfl rfl trivial rfl (fun bx2=>?_)
 refine .as rfl (.nt hK1 ?_)
 refine .seq fun _ hK2=>?_
 refine .sr fun _ hK3=>?_
 refine .v (.loadBoxG ag24 rfl bsp rfl rfl) ?_
 refine AK.call co37 rfl (fun w hw=>s_val6 w e s (h.at hw)) trivial rfl ?_
 rintro r o ⟨rfl,rfl⟩
 refine .v (.not rfl) (.mv rfl ?_)
 refine AK.knownF (g:=10) rfl (by rw [he];rfl) (fun hg_1_3=>?_)
 refine AK.val _ (Yl.move rfl) ⟨_,rfl,gB hg_1_3⟩ rfl ?_
 refine AK.call co38 rfl (fun w hw=>s_wvalid w wd 6 (by omega)) ⟨_,rfl,gB hg_1_3⟩ rfl ?_
 rintro r o ⟨rfl,rfl⟩
 refine AK.val _ (Yl.not rfl) ⟨_,rfl,gB hg_1_3⟩ rfl ?_
 refine .v (.pickF rfl (hg_1_3) rfl) (.nt hK3 ?_)
 refine AK.cond_f rfl (by rw [hv];rfl) ?_
 refine .skip ?_
 refine AK.then_ (hK2 _ ?_)
 refine .sr fun _ hK4=>?_
 refine .mv rfl ?_
 refine .v (.build (parts:=[(0,.tmp 15)]) (cs:=#[sv wd]) rfl (by kernel_rfl)) ?_
 refine AK.alloc el75 rfl rfl trivial rfl (fun bx5=>?_)
 refine AK.storeBox 1 (us:=[sv wd]) (cs':=[sv wd]) rfl sz75 rfl rfl rfl rfl oneP (leb rfl) rfl trivial ?_
 refine .nt hK4 ?_
 refine .sr fun _ hK5=>?_
 refine .v (.loadBoxG ag75 rfl bsp rfl rfl) ?_
 refine AK.call co39 rfl (fun w hw=>s_onone w wd hl) trivial rfl ?_
 rintro fv o ⟨sfv,rfl⟩
 refine .as rfl (.nt hK5 ?_)
 refine .sr fun _ hK6=>?_
 refine .mv rfl ?_
 refine AK.callN 2 rfl co40 rfl (fun w Fs hw hh hfr hal=>s_oadd w (Fs 2) fv 0 0 (by omega) (hh.at_ 2 _ rfl)) trivial rfl ?_
 rintro r A o ⟨rfl,rfl⟩
 refine .nt hK6 ?_
 refine .sr fun _ hK7=>?_
 refine .v (.loadBoxG ag75 rfl bsp rfl rfl) (.v (.loadBoxG ag24 rfl bsp rfl rfl) (.mv rfl ?_))
 refine AK.call co41 rfl (fun w hw=>s_endsg e w s (h.at hw) wd hl hv hw6 fv (0 ||| (1:W64) <<< 0) (fun i hi=>by have:i∈mems (0 ||| (1:W64) <<< 0):=mem_mems.2 hi;rw [show mems (0 ||| (1:W64) <<< 0)=[0] by decide +kernel] at this;have:=List.mem_singleton.1 this;omega) (RdL.own (f:=uv) (xs:=[(0 ||| (1:W64) <<< 0)]) 2 hw rfl) (hT.at hw)) trivial rfl ?_
 rintro rv o ⟨vs1,xss1,hj1,srv,rfl⟩
 have hvl:=hj1.vl
 have hxl:=hj1.xl
 have hs0:=hj1.sls 0 (by omega)
 have hx0:=hj1.old 0 (by decide +kernel) (by omega) (by simp)
 refine .v (.idxN (k:=0) sl79 rfl rfl rdp (by decide) (by omega)) ?_
 refine .v (.loadV on76 rfl rdp (by omega)) ?_
 refine .mv rfl (.v (.lenS un9 rfl) ?_)
 refine AK.call co42 rfl (fun w hw=>s_ohas w (vs1.getD 0 undef) (mP wd (LE e) 0) wd.length (by omega) (show RdL (fun _=>False) uv w (vs1.getD 0 undef) [mP wd (LE e) 0] from hx0 ▸ RdL.big (v:=Value.bool true) (xss:=xss1) (rs:=vs1) 4 0 hw rfl (by omega) (by omega))) trivial rfl ?_
 rintro r o ⟨rfl,rfl⟩
 refine .as rfl (.nt hK7 (.ret ?_))
 refine AK.ret1 rfl rfl (fun w hw=>⟨_,_,?_,rfl,Ret.of (hw.pick [] (by decide) rfl rfl)⟩)
 exact ⟨rfl,rfl⟩
theorem match_iff {e:Ex} {wd:List UInt8} (hl:wd.length≤62):(mP wd (LE e) 0).getLsbD wd.length=true↔LE e wd:=by
 rw [mP_get hl]
 have:subW wd 0 wd.length=wd:=by simp [subW]
 rw [this]
 exact ⟨fun h=>h.2.2,fun h=>⟨Nat.zero_le _,Nat.le_refl _,h⟩⟩
end Go.Proofs.YtbibnpdnmmgacaaGreatDoor
namespace Go.Sx
open Go.RowKit
inductive Wk (E:Nat→W64) (lt:Nat→Int):Nat→List UInt8→Nat→Prop
 | one {p:Nat} {c:UInt8} (h:(c.toNat:Int) - 97=lt p):Wk E lt p [c] p
 | cons {p p' q:Nat} {c:UInt8} {w:List UInt8} (h:(c.toNat:Int) - 97=lt p) (he:(E p).getLsbD p'=true) (t:Wk E lt p' w q):Wk E lt p (c :: w) q
theorem Wk.ne {E:Nat→W64} {lt:Nat→Int} {p q:Nat} {w:List UInt8} (h:Wk E lt p w q):w ≠ []:=by cases h <;> simp
theorem Wk.stay {E:Nat→W64} {lt:Nat→Int} {c c' p q:Nat} {w:List UInt8} (h:Wk E lt p w q) (cl:∀ p q,c<p→p≤c'→(E p).getLsbD q=true→c<q∧q≤c'):c<p→p≤c'→c<q∧q≤c':=by
 induction h with
 | one h=>intro h1 h2;exact ⟨h1,h2⟩
 | cons h he t ih=>intro h1 h2;obtain ⟨g1,g2⟩:=cl _ _ h1 h2 he;exact ih g1 g2
theorem Wk.congr {E E':Nat→W64} {lt:Nat→Int} {c c' p q:Nat} {w:List UInt8} (h:Wk E lt p w q) (cl:∀ p q,c<p→p≤c'→(E p).getLsbD q=true→c<q∧q≤c') (hE:∀ p,c<p→p≤c'→E' p=E p):c<p→p≤c'→Wk E' lt p w q:=by
 induction h with
 | one h=>intro _ _;exact .one h
 | cons h he t ih=>intro h1 h2;obtain ⟨g1,g2⟩:=cl _ _ h1 h2 he;exact .cons h (by rw [hE _ h1 h2];exact he) (ih g1 g2)
theorem Wk.app {E:Nat→W64} {lt:Nat→Int} {p q p2 r:Nat} {u v:List UInt8} (h:Wk E lt p u q) (he:(E q).getLsbD p2=true) (t:Wk E lt p2 v r):Wk E lt p (u++v) r:=by
 induction h with
 | one h=>exact .cons h he t
 | cons h he' _ ih=>exact .cons h he' (ih he)
structure Fr (lt:Nat→Int) (c c':Nat) (E:Nat→W64) (a:PR) (P:List UInt8→Prop):Prop where
 le:c≤c'
 cl:∀ p q,c<p→p≤c'→(E p).getLsbD q=true→c<q∧q≤c'
 fi:∀ q,a.1.getLsbD q=true→c<q∧q≤c'
 la:∀ q,a.2.1.getLsbD q=true→c<q∧q≤c'
 sem:∀ w,P w↔(w=[]∧a.2.2=true)∨∃ p q,a.1.getLsbD p=true∧a.2.1.getLsbD q=true∧Wk E lt p w q
section
variable {lt : Nat → Int} {c c1 c2 : Nat} {E E' : Nat → W64} {a b : PR} {P Q : List UInt8 → Prop}
theorem Fr.congr (h:Fr lt c c1 E a P) (hE:∀ p,c<p→p≤c1→E' p=E p):Fr lt c c1 E' a P where
 le:=h.le
 cl p q h1 h2 he:=h.cl p q h1 h2 (by rw [← hE p h1 h2];exact he)
 fi:=h.fi
 la:=h.la
 sem w:=by
  rw [h.sem]
  refine or_congr Iff.rfl (exists_congr fun p=>exists_congr fun q=>and_congr_right fun h1=>and_congr_right fun h2=>?_)
  obtain ⟨g1,g2⟩:=h.fi p h1
  exact ⟨fun hw=>hw.congr h.cl hE g1 g2,fun hw=>hw.congr (fun p q k1 k2 he=>h.cl p q k1 k2 (by rw [← hE p k1 k2];exact he)) (fun p k1 k2=>(hE p k1 k2).symm) g1 g2⟩
theorem Fr.lang (h:Fr lt c c1 E a P) (hPQ:∀ w,Q w↔P w):Fr lt c c1 E a Q:=⟨h.le,h.cl,h.fi,h.la,fun w=>(hPQ w).trans (h.sem w)⟩
theorem Fr.flat (n:Bool) (hc:∀ w,Q w↔(w=[]∧n=true)):Fr lt c c E (0,0,n) Q where
 le:=Nat.le_refl _
 cl p q h1 h2:=by omega
 fi q h:=by rw [get0] at h;cases h
 la q h:=by rw [get0] at h;cases h
 sem w:=by
  rw [hc]
  constructor
  ·exact .inl
  ·rintro (h | ⟨p,q,h,_⟩)
   ·exact h
   ·rw [get0] at h;cases h
theorem Fr.ltr (hc:c+1<64) (hE:E (c+1)=0):Fr lt c (c+1) E (bit ((c+1:Nat):Int),bit ((c+1:Nat):Int),false) (fun w=>∃ ch:UInt8,w=[ch]∧(ch.toNat:Int) - 97=lt (c+1)) where
 le:=Nat.le_succ _
 cl p q h1 h2 he:=by
  have:p=c+1:=by omega
  rw [this,hE,get0] at he;cases he
 fi q h:=by have:=bit_le hc h;omega
 la q h:=by have:=bit_le hc h;omega
 sem w:=by
  have hb:(bit ((c+1:Nat):Int)).getLsbD (c+1)=true:=by rw [bit_get (by omega),decide_eq_true_eq]
  constructor
  ·rintro ⟨ch,rfl,h⟩;exact .inr ⟨c+1,c+1,hb,hb,.one h⟩
  ·rintro (⟨_,h⟩ | ⟨p,q,h1,h2,hw⟩)
   ·cases h
   ·have e1:=bit_le hc h1
    subst e1
    cases hw with
    | one h=>exact ⟨_,rfl,h⟩
    | cons h he _=>rw [hE,get0] at he;cases he
theorem or_get (x y:W64) (i:Nat):(x ||| y).getLsbD i=true↔x.getLsbD i=true∨y.getLsbD i=true:=by rw [BitVec.getLsbD_or,Bool.or_eq_true]
theorem Fr.uni (h1:Fr lt c c1 E a P) (h2:Fr lt c1 c2 E b Q):Fr lt c c2 E (uniR a b) (fun w=>P w∨Q w) where
 le:=Nat.le_trans h1.le h2.le
 cl p q g1 g2 he:=by
  have l1:=h1.le;have l2:=h2.le
  rcases Nat.lt_or_ge c1 p with h | h
  ·have:=h2.cl p q h g2 he;omega
  ·have:=h1.cl p q g1 h he;omega
 fi q h:=by
  have l1:=h1.le;have l2:=h2.le
  rcases (or_get _ _ _).1 h with h | h
  ·have:=h1.fi q h;omega
  ·have:=h2.fi q h;omega
 la q h:=by
  have l1:=h1.le;have l2:=h2.le
  rcases (or_get _ _ _).1 h with h | h
  ·have:=h1.la q h;omega
  ·have:=h2.la q h;omega
 sem w:=by
  rw [h1.sem,h2.sem]
  constructor
  ·rintro ((⟨g1,g2⟩ | ⟨p,q,g1,g2,g3⟩) | (⟨g1,g2⟩ | ⟨p,q,g1,g2,g3⟩))
   ·exact .inl ⟨g1,by simp [uniR,g2]⟩
   ·exact .inr ⟨p,q,(or_get _ _ _).2 (.inl g1),(or_get _ _ _).2 (.inl g2),g3⟩
   ·exact .inl ⟨g1,by simp [uniR,g2]⟩
   ·exact .inr ⟨p,q,(or_get _ _ _).2 (.inr g1),(or_get _ _ _).2 (.inr g2),g3⟩
  ·rintro (⟨g1,g2⟩ | ⟨p,q,g1,g2,g3⟩)
   ·have g2:(a.2.2 || b.2.2)=true:=g2
    rw [Bool.or_eq_true] at g2
    rcases g2 with g2 | g2
    ·exact .inl (.inl ⟨g1,g2⟩)
    ·exact .inr (.inl ⟨g1,g2⟩)
   ·rcases (or_get _ _ _).1 g1 with f1 | f1 <;> rcases (or_get _ _ _).1 g2 with f2 | f2
    ·exact .inl (.inr ⟨p,q,f1,f2,g3⟩)
    ·have k1:=h1.fi p f1
     have k2:=g3.stay h1.cl k1.1 k1.2
     have k3:=h2.la q f2
     omega
    ·have k1:=h2.fi p f1
     have k2:=g3.stay h2.cl k1.1 k1.2
     have k3:=h1.la q f2
     omega
    ·exact .inr (.inr ⟨p,q,f1,f2,g3⟩)
theorem cat_split (h1:Fr lt c c1 E a P) (h2:Fr lt c1 c2 E b Q) (hE:∀ p,c<p→p≤c2→E' p=if a.2.1.getLsbD p=true then E p ||| b.1 else E p) {p q:Nat} {w:List UInt8} (h:Wk E' lt p w q) :
  c<p→p≤c1→(q≤c1∧Wk E lt p w q)∨∃ u v q1 p2,w=u++v∧Wk E lt p u q1∧a.2.1.getLsbD q1=true∧b.1.getLsbD p2=true∧Wk E lt p2 v q:=by
 have l1:=h1.le;have l2:=h2.le
 have hr:∀ p,c1<p→p≤c2→E' p=E p:=fun p g1 g2=>by
  rw [hE p (by omega) g2,if_neg (fun h=>by have:=h1.la p h;omega)]
 have hcl2:∀ p q,c1<p→p≤c2→(E' p).getLsbD q=true→c1<q∧q≤c2:=fun p q g1 g2 he=>h2.cl p q g1 g2 (by rw [← hr p g1 g2];exact he)
 induction h with
 | one h=>intro g1 g2;exact .inl ⟨g2,.one h⟩
 | @cons p p' q ch w h he t ih=>
  intro g1 g2
  rw [hE p g1 (by omega)] at he
  by_cases ha:a.2.1.getLsbD p=true
  ·rw [if_pos ha,or_get] at he
   rcases he with he | he
   ·obtain ⟨k1,k2⟩:=h1.cl p p' g1 g2 he
    rcases ih k1 k2 with ⟨m1,m2⟩ | ⟨u,v,q1,p2,rfl,m2,m3,m4,m5⟩
    ·exact .inl ⟨m1,.cons h he m2⟩
    ·exact .inr ⟨ch :: u,v,q1,p2,rfl,.cons h he m2,m3,m4,m5⟩
   ·obtain ⟨k1,k2⟩:=h2.fi p' he
    exact .inr ⟨[ch],w,p,p',rfl,.one h,ha,he,t.congr hcl2 (fun p g1 g2=>(hr p g1 g2).symm) k1 k2⟩
  ·rw [if_neg ha] at he
   obtain ⟨k1,k2⟩:=h1.cl p p' g1 g2 he
   rcases ih k1 k2 with ⟨m1,m2⟩ | ⟨u,v,q1,p2,rfl,m2,m3,m4,m5⟩
   ·exact .inl ⟨m1,.cons h he m2⟩
   ·exact .inr ⟨ch :: u,v,q1,p2,rfl,.cons h he m2,m3,m4,m5⟩
theorem Fr.cat (h1:Fr lt c c1 E a P) (h2:Fr lt c1 c2 E b Q) (hE:∀ p,c<p→p≤c2→E' p=if a.2.1.getLsbD p=true then E p ||| b.1 else E p):Fr lt c c2 E' (catR a b) (fun w=>∃ u v,w=u++v∧P u∧Q v):=by
 have l1:=h1.le;have l2:=h2.le
 have hr:∀ p,c1<p→p≤c2→E' p=E p:=fun p g1 g2=>by
  rw [hE p (by omega) g2,if_neg (fun h=>by have:=h1.la p h;omega)]
 have hcl2:∀ p q,c1<p→p≤c2→(E' p).getLsbD q=true→c1<q∧q≤c2:=fun p q g1 g2 he=>h2.cl p q g1 g2 (by rw [← hr p g1 g2];exact he)
 have left:∀ {p q:Nat} {w:List UInt8},Wk E lt p w q→c<p→p≤c1→Wk E' lt p w q:=by
  intro p q w h
  induction h with
  | one h=>intro _ _;exact .one h
  | @cons p p' q ch w h he t ih=>
   intro g1 g2
   obtain ⟨k1,k2⟩:=h1.cl p p' g1 g2 he
   refine .cons h ?_ (ih k1 k2)
   rw [hE p g1 (by omega)]
   split
   ·rw [or_get];exact .inl he
   ·exact he
 have right:∀ {p q:Nat} {w:List UInt8},Wk E lt p w q→c1<p→p≤c2→Wk E' lt p w q:=fun h g1 g2=>h.congr h2.cl hr g1 g2
 refine ⟨by omega,fun p q g1 g2 he=>?_,fun q h=>?_,fun q h=>?_,fun w=>?_⟩
 ·rw [hE p g1 g2] at he
  rcases Nat.lt_or_ge c1 p with h | h
  ·rw [if_neg (fun k=>by have:=h1.la p k;omega)] at he
   have:=h2.cl p q h g2 he;omega
  ·split at he
   ·rcases (or_get _ _ _).1 he with he | he
    ·have:=h1.cl p q g1 h he;omega
    ·have:=h2.fi q he;omega
   ·have:=h1.cl p q g1 h he;omega
 ·have h:(if a.2.2=true then a.1 ||| b.1 else a.1).getLsbD q=true:=h
  split at h
  ·rcases (or_get _ _ _).1 h with h | h
   ·have:=h1.fi q h;omega
   ·have:=h2.fi q h;omega
  ·have:=h1.fi q h;omega
 ·have h:((if b.2.2=true then a.2.1 else 0) ||| b.2.1).getLsbD q=true:=h
  rcases (or_get _ _ _).1 h with h | h
  ·split at h
   ·have:=h1.la q h;omega
   ·rw [get0] at h;cases h
  ·have:=h2.la q h;omega
 ·have ef:∀ q,(catR a b).1.getLsbD q=true↔a.1.getLsbD q=true∨(a.2.2=true∧b.1.getLsbD q=true):=fun q=>by
   show (if a.2.2=true then a.1 ||| b.1 else a.1).getLsbD q=true↔_
   split
   ·rename_i hn;rw [or_get];simp [hn]
   ·rename_i hn;simp [hn]
  have el:∀ q,(catR a b).2.1.getLsbD q=true↔(b.2.2=true∧a.2.1.getLsbD q=true)∨b.2.1.getLsbD q=true:=fun q=>by
   show ((if b.2.2=true then a.2.1 else 0) ||| b.2.1).getLsbD q=true↔_
   rw [or_get]
   split
   ·rename_i hn;simp [hn]
   ·rename_i hn;simp [hn]
  have en:(catR a b).2.2=true↔a.2.2=true∧b.2.2=true:=by show (a.2.2 && b.2.2)=true↔_;rw [Bool.and_eq_true]
  constructor
  ·rintro ⟨u,v,rfl,hP,hQ⟩
   rcases (h1.sem u).1 hP with ⟨rfl,n1⟩ | ⟨p,q,g1,g2,g3⟩ <;> rcases (h2.sem v).1 hQ with ⟨rfl,n2⟩ | ⟨p2,q2,k1,k2,k3⟩
   ·exact .inl ⟨rfl,en.2 ⟨n1,n2⟩⟩
   ·obtain ⟨m1,m2⟩:=h2.fi p2 k1
    exact .inr ⟨p2,q2,(ef _).2 (.inr ⟨n1,k1⟩),(el _).2 (.inr k2),right k3 m1 m2⟩
   ·obtain ⟨m1,m2⟩:=h1.fi p g1
    rw [List.append_nil]
    exact .inr ⟨p,q,(ef _).2 (.inl g1),(el _).2 (.inl ⟨n2,g2⟩),left g3 m1 m2⟩
   ·obtain ⟨m1,m2⟩:=h1.fi p g1
    obtain ⟨m3,m4⟩:=h2.fi p2 k1
    obtain ⟨m5,m6⟩:=h1.la q g2
    refine .inr ⟨p,q2,(ef _).2 (.inl g1),(el _).2 (.inr k2),(left g3 m1 m2).app ?_ (right k3 m3 m4)⟩
    rw [hE q m5 (by omega),if_pos g2,or_get];exact .inr k1
  ·rintro (⟨rfl,hn⟩ | ⟨p,q,g1,g2,g3⟩)
   ·exact ⟨[],[],rfl,(h1.sem _).2 (.inl ⟨rfl,(en.1 hn).1⟩),(h2.sem _).2 (.inl ⟨rfl,(en.1 hn).2⟩)⟩
   ·rcases (ef p).1 g1 with f1 | ⟨n1,f1⟩
    ·obtain ⟨m1,m2⟩:=h1.fi p f1
     rcases cat_split h1 h2 hE g3 m1 m2 with ⟨k1,k2⟩ | ⟨u,v,q1,p2,rfl,k2,k3,k4,k5⟩
     ·rcases (el q).1 g2 with ⟨n2,f2⟩ | f2
      ·exact ⟨w,[],by simp,(h1.sem _).2 (.inr ⟨p,q,f1,f2,k2⟩),(h2.sem _).2 (.inl ⟨rfl,n2⟩)⟩
      ·have:=h2.la q f2;omega
     ·obtain ⟨m3,m4⟩:=h2.fi p2 k4
      have hq:=k5.stay h2.cl m3 m4
      rcases (el q).1 g2 with ⟨n2,f2⟩ | f2
      ·have:=h1.la q f2;omega
      ·exact ⟨u,v,rfl,(h1.sem _).2 (.inr ⟨p,q1,f1,k3,k2⟩),(h2.sem _).2 (.inr ⟨p2,q,k4,f2,k5⟩)⟩
    ·obtain ⟨m1,m2⟩:=h2.fi p f1
     have k:=g3.congr hcl2 (fun p g1 g2=>(hr p g1 g2).symm) m1 m2
     have hq:=k.stay h2.cl m1 m2
     rcases (el q).1 g2 with ⟨n2,f2⟩ | f2
     ·have:=h1.la q f2;omega
     ·exact ⟨[],w,rfl,(h1.sem _).2 (.inl ⟨rfl,n1⟩),(h2.sem _).2 (.inr ⟨p,q,f1,f2,k⟩)⟩
theorem star_split (h1:Fr lt c c1 E a P) (hE:∀ p,c<p→p≤c1→E' p=if a.2.1.getLsbD p=true then E p ||| a.1 else E p) {p q:Nat} {w:List UInt8} (h:Wk E' lt p w q) :
  c<p→p≤c1→Wk E lt p w q∨∃ u v q1 p2,w=u++v∧Wk E lt p u q1∧a.2.1.getLsbD q1=true∧a.1.getLsbD p2=true∧Wk E' lt p2 v q:=by
 induction h with
 | one h=>intro _ _;exact .inl (.one h)
 | @cons p p' q ch w h he t ih=>
  intro g1 g2
  rw [hE p g1 g2] at he
  have hstep:(E p).getLsbD p'=true→Wk E lt p (ch :: w) q∨∃ u v q1 p2,ch :: w=u++v∧Wk E lt p u q1∧a.2.1.getLsbD q1=true∧a.1.getLsbD p2=true∧Wk E' lt p2 v q:=fun he=>by
   obtain ⟨k1,k2⟩:=h1.cl p p' g1 g2 he
   rcases ih k1 k2 with m | ⟨u,v,q1,p2,rfl,m2,m3,m4,m5⟩
   ·exact .inl (.cons h he m)
   ·exact .inr ⟨ch :: u,v,q1,p2,rfl,.cons h he m2,m3,m4,m5⟩
  by_cases ha:a.2.1.getLsbD p=true
  ·rw [if_pos ha,or_get] at he
   rcases he with he | he
   ·exact hstep he
   ·exact .inr ⟨[ch],w,p,p',rfl,.one h,ha,he,t⟩
  ·rw [if_neg ha] at he
   exact hstep he
theorem Fr.star (h1:Fr lt c c1 E a P) (hE:∀ p,c<p→p≤c1→E' p=if a.2.1.getLsbD p=true then E p ||| a.1 else E p):Fr lt c c1 E' (a.1,a.2.1,true) (StarL P):=by
 have hle:∀ p q,c<p→p≤c1→(E' p).getLsbD q=true→c<q∧q≤c1:=fun p q g1 g2 he=>by
  rw [hE p g1 g2] at he
  split at he
  ·rcases (or_get _ _ _).1 he with he | he
   ·exact h1.cl p q g1 g2 he
   ·exact h1.fi q he
  ·exact h1.cl p q g1 g2 he
 have up:∀ {p q:Nat} {w:List UInt8},Wk E lt p w q→c<p→p≤c1→Wk E' lt p w q:=by
  intro p q w h
  induction h with
  | one h=>intro _ _;exact .one h
  | @cons p p' q ch w h he t ih=>
   intro g1 g2
   obtain ⟨k1,k2⟩:=h1.cl p p' g1 g2 he
   refine .cons h ?_ (ih k1 k2)
   rw [hE p g1 g2]
   split
   ·rw [or_get];exact .inl he
   ·exact he
 refine ⟨h1.le,hle,h1.fi,h1.la,fun w=>?_⟩
 constructor
 ·have key:∀ n (w:List UInt8),w.length≤n→StarL P w→w ≠ []→∃ p q,a.1.getLsbD p=true∧a.2.1.getLsbD q=true∧Wk E' lt p w q:=by
   intro n
   induction n with
   | zero=>intro w hl _ h0;exact absurd (List.eq_nil_of_length_eq_zero (by omega)) h0
   | succ n ih=>
    intro w hl h h0
    rcases star_ne h with h | ⟨u,v,g1,g2,g3,rfl⟩
    ·exact absurd h h0
    ·have hul:=List.length_pos_iff.2 g1
     rcases (h1.sem u).1 g2 with ⟨e,_⟩ | ⟨p,q,k1,k2,k3⟩
     ·exact absurd e g1
     ·obtain ⟨m1,m2⟩:=h1.fi p k1
      by_cases hv:v=[]
      ·subst hv;rw [List.append_nil];exact ⟨p,q,k1,k2,up k3 m1 m2⟩
      ·obtain ⟨p2,q2,j1,j2,j3⟩:=ih v (by simp at hl;omega) g3 hv
       obtain ⟨m3,m4⟩:=h1.la q k2
       refine ⟨p,q2,k1,j2,(up k3 m1 m2).app ?_ j3⟩
       rw [hE q m3 m4,if_pos k2,or_get];exact .inr j1
  intro h
  by_cases h0:w=[]
  ·exact .inl ⟨h0,rfl⟩
  ·exact .inr (key w.length w (Nat.le_refl _) h h0)
 ·have key:∀ n (w:List UInt8),w.length≤n→∀ p q,a.1.getLsbD p=true→a.2.1.getLsbD q=true→Wk E' lt p w q→StarL P w:=by
   intro n
   induction n with
   | zero=>intro w hl p q _ _ hw;exact absurd (List.eq_nil_of_length_eq_zero (by omega)) hw.ne
   | succ n ih=>
    intro w hl p q g1 g2 hw
    obtain ⟨m1,m2⟩:=h1.fi p g1
    rcases star_split h1 hE hw m1 m2 with k | ⟨u,v,q1,p2,rfl,k2,k3,k4,k5⟩
    ·have:=StarL.cons ((h1.sem w).2 (.inr ⟨p,q,g1,g2,k⟩)) .nil
     rwa [List.append_nil] at this
    ·have hul:=List.length_pos_iff.2 k2.ne
     exact .cons ((h1.sem u).2 (.inr ⟨p,q1,g1,k3,k2⟩)) (ih v (by simp at hl;omega) p2 q k4 g2 k5)
  rintro (⟨rfl,_⟩ | ⟨p,q,g1,g2,g3⟩)
  ·exact .nil
  ·exact key w.length w (Nat.le_refl _) p q g1 g2 g3
end
end Go.Sx
namespace Go.Sx
open Go.RowKit
def Lts (lt:Nat→Int) (c:Nat) (l:List Int):Prop:=∀ i,i<l.length→lt (c+1+i)=l.getD i 0
theorem Lts.left {lt:Nat→Int} {c:Nat} {x y:List Int} (h:Lts lt c (x++y)):Lts lt c x:=fun i hi=>by
 rw [h i (by rw [List.length_append];omega)]
 simp [List.getD_eq_getElem?_getD,List.getElem?_append_left hi]
theorem Lts.right {lt:Nat→Int} {c:Nat} {x y:List Int} (h:Lts lt c (x++y)):Lts lt (c+x.length) y:=fun i hi=>by
 have:=h (x.length+i) (by rw [List.length_append];omega)
 rw [show c+x.length+1+i=c+1+(x.length+i) by omega,this]
 simp [List.getD_eq_getElem?_getD,List.getElem?_append_right]
def Zr (s:PS):Prop:=∀ p,s.1<p→s.2.getD p 0=0
structure VF (lt:Nat→Int) (c:Nat) (s:PS) (n:Nat) (a:PR) (t:PS) (P:List UInt8→Prop):Prop where
 fr:Fr lt c t.1 (fun p=>t.2.getD p 0) a P
 cnt:t.1=s.1+n
 len:t.2.length=s.2.length
 out:∀ p,p≤c∨t.1<p→t.2.getD p 0=s.2.getD p 0
theorem VF.zr {lt:Nat→Int} {c:Nat} {s t:PS} {n:Nat} {a:PR} {P:List UInt8→Prop} (h:VF lt c s n a t P) (hz:Zr s):Zr t:=fun p hp=>by
 rw [h.out p (.inr hp)];exact hz p (by have:=h.cnt;omega)
theorem VF.flat {lt:Nat→Int} {s:PS} {P:List UInt8→Prop} (n:Bool) (hc:∀ w,P w↔(w=[]∧n=true)):VF lt s.1 s 0 (0,0,n) s P:=⟨Fr.flat n hc,rfl,rfl,fun _ _=>rfl⟩
theorem LE3 {e:Ex} (h:e.op=3) (w:List UInt8):LE e w↔∃ c:UInt8,w=[c]∧(c.toNat:Int) - 97=e.lt:=by obtain ⟨op,lt,ks⟩:=e;cases h;simp [LE,Ex.lt]
mutual
theorem vis_fr (lt:Nat→Int):∀ (e:Ex) (s:PS),wfE 6 e=true→hbE e=false→s.1+(ltsE e).length<s.2.length→s.2.length≤64→Lts lt s.1 (ltsE e)→Zr s →
  VF lt s.1 s (ltsE e).length (visE e s).1 (visE e s).2 (LE e)
 | .mk op l ks,s,hw,hb,hs,h64,hl,hz=>by
  have hb':(decide (op=6)=false∧decide (op=8)=false)∧hbL ks=false:=by
   rw [hbE,Bool.or_eq_false_iff,Bool.or_eq_false_iff] at hb;exact hb
  have n6:op ≠ 6:=of_decide_eq_false hb'.1.1
  have n8:op ≠ 8:=of_decide_eq_false hb'.1.2
  rcases wf_cases hw with ⟨rfl,rfl,_,_⟩ | ⟨rfl,(⟨ho,rfl⟩ | ⟨ho,_,hk⟩ | ⟨ho,hk1,hk⟩)⟩
  ·have e1:ltsE (.mk 3 l [])=[l]:=by rw [ltsE,if_pos rfl]
   have e2:visE (.mk 3 l []) s=((bit ((s.1+1:Nat):Int),bit ((s.1+1:Nat):Int),false),(s.1+1,s.2)):=by rw [visE_eq];rfl
   rw [e1] at hs hl
   rw [e2,e1]
   have hl0:lt (s.1+1)=l:=hl 0 (by simp)
   refine ⟨(Fr.ltr (by simp at hs;omega) (hz _ (Nat.lt_succ_self _))).lang fun w=>?_,rfl,rfl,fun p _=>rfl⟩
   rw [LE3 rfl,hl0];rfl
  ·have e1:ltsE (.mk op 0 [])=[]:=by rw [ltsE,if_neg (by omega),ltsL]
   rw [e1]
   rcases ho with rfl | rfl
   ·rw [show visE (.mk 1 0 []) s=((0,0,false),s) by rw [visE_eq];rfl]
    exact VF.flat false fun w=>by rw [LE1 rfl];simp
   ·rw [show visE (.mk 2 0 []) s=((0,0,true),s) by rw [visE_eq];rfl]
    exact VF.flat true fun w=>by rw [LE2 rfl];simp
  ·have e1:ltsE (.mk op 0 ks)=ltsL ks:=by rw [ltsE,if_neg (by omega)]
   rw [e1] at hs hl ⊢
   rcases ho with rfl | rfl | rfl
   ·rw [show visE (.mk 4 0 ks) s=visU ks (0,0,false) s by rw [visE_eq];rfl]
    have h:=visU_fr lt ks (0,0,false) s s.1 (fun _=>False) (fun k hm=>hk k hm) hb'.2 hs h64 hl hz (Fr.flat false fun w=>by simp)
    exact ⟨h.fr.lang fun w=>by rw [LE4 rfl];simp [Ex.kids],h.cnt,h.len,h.out⟩
   ·rw [show visE (.mk 5 0 ks) s=visC ks (0,0,true) s by rw [visE_eq];rfl]
    have h:=visC_fr lt ks (0,0,true) s s.1 (fun w=>w=[]) (fun k hm=>hk k hm) hb'.2 hs h64 hl hz (Fr.flat true fun w=>by simp)
    exact ⟨h.fr.lang fun w=>by rw [LE5 rfl];exact ⟨fun h=>⟨[],w,rfl,rfl,h⟩,by rintro ⟨u,v,rfl,rfl,h⟩;exact h⟩,h.cnt,h.len,h.out⟩
   ·exact absurd rfl n6
  ·have e1:ltsE (.mk op 0 ks)=ltsL ks:=by rw [ltsE,if_neg (by omega)]
   rw [e1] at hs hl ⊢
   rcases ho with rfl | rfl
   ·rw [show visE (.mk 7 0 ks) s=visS ks s by rw [visE_eq];rfl]
    have h:=visS_fr lt ks s hk1 (fun k hm=>hk k hm) hb'.2 hs h64 hl hz
    exact ⟨h.fr.lang fun w=>by rw [LE7 rfl];rfl,h.cnt,h.len,h.out⟩
   ·exact absurd rfl n8
theorem visU_fr (lt:Nat→Int):∀ (ks:List Ex) (a:PR) (s:PS) (c0:Nat) (P:List UInt8→Prop),(∀ k∈ks,wfE 6 k=true)→hbL ks=false→s.1+(ltsL ks).length<s.2.length→s.2.length≤64→Lts lt s.1 (ltsL ks)→Zr s→Fr lt c0 s.1 (fun p=>s.2.getD p 0) a P →
  VF lt c0 s (ltsL ks).length (visU ks a s).1 (visU ks a s).2 (fun w=>P w∨LEany ks w)
 | [],a,s,c0,P,_,_,hs,_,_,_,hf=>by
  rw [visU,ltsL]
  exact ⟨hf.lang fun w=>by simp [LEany],rfl,rfl,fun p _=>rfl⟩
 | k :: ks,a,s,c0,P,hw,hb,hs,h64,hl,hz,hf=>by
  rw [hbL,Bool.or_eq_false_iff] at hb
  rw [ltsL] at hs hl
  rw [List.length_append] at hs
  have h1:=vis_fr lt k s (hw k List.mem_cons_self) hb.1 (by omega) h64 hl.left hz
  have hf2:Fr lt c0 (visE k s).2.1 (fun p=>(visE k s).2.2.getD p 0) (uniR a (visE k s).1) (fun w=>P w∨LE k w):=
   Fr.uni (hf.congr fun p _ hp=>h1.out p (.inl hp)) h1.fr
  have h2:=visU_fr lt ks (uniR a (visE k s).1) (visE k s).2 c0 _ (fun x hx=>hw x (List.mem_cons_of_mem _ hx)) hb.2 (by rw [h1.cnt,h1.len];omega) (by rw [h1.len];exact h64) (by rw [h1.cnt];exact hl.right) (h1.zr hz) hf2
  rw [visU,ltsL,List.length_append]
  refine ⟨h2.fr.lang fun w=>by rw [LEany,or_assoc],by rw [h2.cnt,h1.cnt];omega,h2.len.trans h1.len,fun p hp=>?_⟩
  have hc:=hf.le
  have k1:=h1.cnt;have k2:=h2.cnt
  rw [h2.out p hp]
  rcases hp with hp | hp
  ·exact h1.out p (.inl (by omega))
  ·exact h1.out p (.inr (by omega))
theorem visC_fr (lt:Nat→Int):∀ (ks:List Ex) (a:PR) (s:PS) (c0:Nat) (P:List UInt8→Prop),(∀ k∈ks,wfE 6 k=true)→hbL ks=false→s.1+(ltsL ks).length<s.2.length→s.2.length≤64→Lts lt s.1 (ltsL ks)→Zr s→Fr lt c0 s.1 (fun p=>s.2.getD p 0) a P →
  VF lt c0 s (ltsL ks).length (visC ks a s).1 (visC ks a s).2 (fun w=>∃ u v,w=u++v∧P u∧LEcat ks v)
 | [],a,s,c0,P,_,_,hs,_,_,_,hf=>by
  rw [visC,ltsL]
  refine ⟨hf.lang fun w=>?_,rfl,rfl,fun p _=>rfl⟩
  constructor
  ·rintro ⟨u,v,rfl,h,hv⟩;rw [LEcat] at hv;subst hv;rw [List.append_nil];exact h
  ·intro h;exact ⟨w,[],by simp,h,by rw [LEcat]⟩
 | k :: ks,a,s,c0,P,hw,hb,hs,h64,hl,hz,hf=>by
  rw [hbL,Bool.or_eq_false_iff] at hb
  rw [ltsL] at hs hl
  rw [List.length_append] at hs
  have h1:=vis_fr lt k s (hw k List.mem_cons_self) hb.1 (by omega) h64 hl.left hz
  have hc:=hf.le
  have k1:=h1.cnt
  have hlj:(catS a (visE k s)).2.length=(visE k s).2.2.length:=joinL_len _ _ _
  have hjg:∀ p,p<s.2.length→(catS a (visE k s)).2.getD p 0=if a.2.1.getLsbD p=true then (visE k s).2.2.getD p 0 ||| (visE k s).1.1 else (visE k s).2.2.getD p 0:=fun p hp=>joinP_get (by rw [h1.len];exact hp)
  have hjo:∀ p,(p≤c0∨s.1<p)→(catS a (visE k s)).2.getD p 0=(visE k s).2.2.getD p 0:=fun p hp=>by
   rcases Nat.lt_or_ge p s.2.length with h | h
   ·rw [hjg p h,if_neg (fun hh=>by have:=hf.la p hh;omega)]
   ·rw [List.getD_eq_getElem?_getD,List.getElem?_eq_none (by rw [hlj,h1.len];exact h),List.getD_eq_getElem?_getD,List.getElem?_eq_none (by rw [h1.len];exact h)]
  have hf2:Fr lt c0 (catS a (visE k s)).1 (fun p=>(catS a (visE k s)).2.getD p 0) (catR a (visE k s).1) (fun w=>∃ u v,w=u++v∧P u∧LE k v):=
   Fr.cat (hf.congr fun p _ hp=>h1.out p (.inl hp)) h1.fr (fun p _ hp=>hjg p (by have hp:p≤(visE k s).2.1:=hp;omega))
  have hz2:Zr (catS a (visE k s)):=fun p hp=>by
   have hp:(visE k s).2.1<p:=hp
   rw [hjo p (.inr (by omega))];exact h1.zr hz p hp
  have hcn:(catS a (visE k s)).1=s.1+(ltsE k).length:=k1
  have h2:=visC_fr lt ks (catR a (visE k s).1) (catS a (visE k s)) c0 _ (fun x hx=>hw x (List.mem_cons_of_mem _ hx)) hb.2 (by rw [hcn,hlj,h1.len];omega) (by rw [hlj,h1.len];exact h64) (by rw [hcn];exact hl.right) hz2 hf2
  rw [visC,ltsL,List.length_append]
  have k2:=h2.cnt
  rw [hcn] at k2
  refine ⟨h2.fr.lang fun w=>?_,by omega,h2.len.trans (hlj.trans h1.len),fun p hp=>?_⟩
  ·constructor
   ·rintro ⟨u,v,rfl,hu,hv⟩
    rw [LEcat] at hv
    obtain ⟨x,y,rfl,hx,hy⟩:=hv
    exact ⟨u++x,y,by simp,⟨u,x,rfl,hu,hx⟩,hy⟩
   ·rintro ⟨u,v,rfl,⟨x,y,rfl,hx,hy⟩,hv⟩
    exact ⟨x,y++v,by simp,hx,by rw [LEcat];exact ⟨y,v,rfl,hy,hv⟩⟩
  ·have hp':p≤c0∨s.1+((ltsE k).length+(ltsL ks).length)<p:=by rw [← Nat.add_assoc,← k2];exact hp
   rw [h2.out p hp,hjo p (by omega)]
   exact h1.out p (by omega)
theorem visS_fr (lt:Nat→Int):∀ (ks:List Ex) (s:PS),ks.length=1→(∀ k∈ks,wfE 6 k=true)→hbL ks=false→s.1+(ltsL ks).length<s.2.length→s.2.length≤64→Lts lt s.1 (ltsL ks)→Zr s →
  VF lt s.1 s (ltsL ks).length (visS ks s).1 (visS ks s).2 (StarL (LEany ks))
 | [],s,h,_,_,_,_,_,_=>by cases h
 | k :: ks,s,h,hw,hb,hs,h64,hl,hz=>by
  have:ks=[]:=by simpa using h
  subst this
  rw [hbL,Bool.or_eq_false_iff] at hb
  rw [ltsL] at hs hl
  rw [List.length_append] at hs
  have h1:=vis_fr lt k s (hw k List.mem_cons_self) hb.1 (by omega) h64 hl.left hz
  have k1:=h1.cnt
  have hjg:∀ p,p<s.2.length→(joinP (visE k s).2.2 (visE k s).1.2.1 (visE k s).1.1).getD p 0=if (visE k s).1.2.1.getLsbD p=true then (visE k s).2.2.getD p 0 ||| (visE k s).1.1 else (visE k s).2.2.getD p 0:=fun p hp=>joinP_get (by rw [h1.len];exact hp)
  have hll:(ltsL [k]).length=(ltsE k).length:=by rw [ltsL,ltsL,List.append_nil]
  rw [hll]
  have ev:visS [k] s=(((visE k s).1.1,(visE k s).1.2.1,true),((visE k s).2.1,joinP (visE k s).2.2 (visE k s).1.2.1 (visE k s).1.1)):=by rw [visS]
  rw [ev]
  refine ⟨(Fr.star h1.fr (fun p _ hp=>hjg p (by omega))).lang fun w=>?_,k1,(joinL_len _ _ _).trans h1.len,fun p hp=>?_⟩
  ·exact ⟨StarL.mono fun l h=>LEany_one.1 h,StarL.mono fun l h=>LEany_one.2 h⟩
  ·rcases Nat.lt_or_ge p s.2.length with h | h
   ·dsimp only at hp ⊢
    rw [hjg p h,if_neg (fun hh=>by have:=h1.fr.la p hh;omega)]
    exact h1.out p hp
   ·dsimp only
    have hlj:(joinP (visE k s).2.2 (visE k s).1.2.1 (visE k s).1.1).length=s.2.length:=(joinL_len _ _ _).trans h1.len
    rw [List.getD_eq_getElem?_getD,List.getElem?_eq_none (by rw [hlj];exact h),List.getD_eq_getElem?_getD,List.getElem?_eq_none h]
end
end Go.Sx
namespace Go.Sx
open Go.RowKit
theorem memF_asc (s:W64):∀ (f i:Nat),(memF s i f).Pairwise (· < ·)
 | 0,i=>.nil
 | f+1,i=>by
  show (if s.getLsbD i=true then i :: memF s (i+1) f else memF s (i+1) f).Pairwise (· < ·)
  split
  ·exact .cons (fun j hj=>by have:=(memF_mem f (i+1) j).1 hj;omega) (memF_asc s f (i+1))
  ·exact memF_asc s f (i+1)
def pEr (lo:List Int) (fol:List W64) (p j:Nat):List Edg:=((mems (fol.getD p 0)).take j).map fun (q:Nat)=>((p:Int),lo.getD q 0,(q:Int))
def pEs (lo:List Int) (fol:List W64):Nat→List Edg
 | 0=>[]
 | k+1=>pEs lo fol k++pEr lo fol k (mems (fol.getD k 0)).length
theorem pEr_next {lo:List Int} {fol:List W64} {p j:Nat} (h:j<(mems (fol.getD p 0)).length):pEr lo fol p (j+1)=pEr lo fol p j++[((p:Int),lo.getD ((mems (fol.getD p 0)).getD j 0) 0,(((mems (fol.getD p 0)).getD j 0:Nat):Int))]:=by
 unfold pEr
 rw [take_snocD 0 _ j h,List.map_append];rfl
theorem pEr_len (lo:List Int) (fol:List W64) (p j:Nat):(pEr lo fol p j).length≤64:=by
 unfold pEr
 rw [List.length_map,List.length_take]
 have:=mems_len (fol.getD p 0)
 omega
theorem pEs_len (lo:List Int) (fol:List W64):∀ k,(pEs lo fol k).length≤64 * k
 | 0=>Nat.le_refl _
 | k+1=>by
  have h1:=pEs_len lo fol k
  have h2:=pEr_len lo fol k (mems (fol.getD k 0)).length
  show (pEs lo fol k++_).length≤_
  rw [List.length_append];omega
theorem mem_pEr {lo:List Int} {fol:List W64} {p:Nat} {e:Edg}:e∈pEr lo fol p (mems (fol.getD p 0)).length↔∃ q:Nat,(fol.getD p 0).getLsbD q=true∧e=((p:Int),lo.getD q 0,(q:Int)):=by
 unfold pEr
 rw [List.take_length,List.mem_map]
 constructor
 ·rintro ⟨q,h,rfl⟩;exact ⟨q,mem_mems.1 h,rfl⟩
 ·rintro ⟨q,h,rfl⟩;exact ⟨q,mem_mems.2 h,rfl⟩
theorem mem_pEs {lo:List Int} {fol:List W64} {e:Edg}:∀ k,e∈pEs lo fol k↔∃ p q:Nat,p<k∧(fol.getD p 0).getLsbD q=true∧e=((p:Int),lo.getD q 0,(q:Int))
 | 0=>by
  constructor
  ·intro h;cases h
  ·rintro ⟨p,q,h,_⟩;omega
 | k+1=>by
  show e∈pEs lo fol k++_↔_
  rw [List.mem_append,mem_pEs k,mem_pEr]
  constructor
  ·rintro (⟨p,q,h1,h2,h3⟩ | ⟨q,h2,h3⟩)
   ·exact ⟨p,q,by omega,h2,h3⟩
   ·exact ⟨k,q,by omega,h2,h3⟩
  ·rintro ⟨p,q,h1,h2,h3⟩
   by_cases hp:p=k
   ·subst hp;exact .inr ⟨q,h2,h3⟩
   ·exact .inl ⟨p,q,by omega,h2,h3⟩
theorem pEr_nodup (lo:List Int) (fol:List W64) (p j:Nat):(pEr lo fol p j).Pairwise (· ≠ ·):=by
 unfold pEr
 rw [List.pairwise_map]
 refine ((memF_asc _ 64 0).sublist (List.take_sublist j _)).imp fun {a b} h e=>?_
 simp only [Prod.mk.injEq] at e;omega
theorem pEs_nodup (lo:List Int) (fol:List W64):∀ k,(pEs lo fol k).Pairwise (· ≠ ·)
 | 0=>.nil
 | k+1=>by
  show (pEs lo fol k++_).Pairwise _
  rw [List.pairwise_append]
  refine ⟨pEs_nodup lo fol k,pEr_nodup _ _ _ _,fun x hx y hy e=>?_⟩
  obtain ⟨p,q,h1,_,h3⟩:=(mem_pEs k).1 hx
  obtain ⟨q2,_,h4⟩:=mem_pEr.1 hy
  rw [h3,h4] at e
  simp only [Prod.mk.injEq] at e;omega
theorem lts_rng {n:Int}:∀ e:Ex,wfE n e=true→∀ x∈ltsE e,0≤x∧x<n:=by
 intro e
 induction e using Ex.indL with
 | _ op lt ks ih=>
  intro hw x hx
  have hL:(∀ k∈ks,wfE n k=true)→∀ x∈ltsL ks,0≤x∧x<n:=by
   intro hk
   have:∀ l:List Ex,(∀ k∈l,k∈ks)→∀ x∈ltsL l,0≤x∧x<n:=by
    intro l
    induction l with
    | nil=>intro _ x hx;rw [ltsL] at hx;cases hx
    | cons k l ih2=>
     intro hl x hx
     rw [ltsL,List.mem_append] at hx
     rcases hx with hx | hx
     ·exact ih k (hl k List.mem_cons_self) (hk k (hl k List.mem_cons_self)) x hx
     ·exact ih2 (fun k hk=>hl k (List.mem_cons_of_mem _ hk)) x hx
   exact this ks fun _ h=>h
  rw [ltsE] at hx
  rcases wf_cases hw with ⟨h3,_,h1,h2⟩ | ⟨_,(⟨h3,rfl⟩ | ⟨h3,_,hk⟩ | ⟨h3,_,hk⟩)⟩
  ·rw [if_pos h3] at hx
   rw [List.mem_singleton.1 hx];exact ⟨h1,h2⟩
  ·rw [if_neg (by omega),ltsL] at hx;cases hx
  ·rw [if_neg (by omega)] at hx;exact hL hk x hx
  ·rw [if_neg (by omega)] at hx;exact hL hk x hx
def posL (e:Ex):List Int:=-1 :: ltsE e
def posV (e:Ex):PR × PS:=visE e (0,List.replicate ((ltsE e).length+1) 0)
def posF (e:Ex):List W64:=(posV e).2.2.set 0 (posV e).1.1
def posT (e:Ex):W64:=if (posV e).1.2.2=true then (posV e).1.2.1 ||| 1 else (posV e).1.2.1
def posE (e:Ex):List Edg:=pEs (posL e) (posF e) ((ltsE e).length+1)
theorem pos_fr {e:Ex} (hw:wfE 6 e=true) (hb:hbE e=false) (hz:(ltsE e).length<64):VF (fun q=>(posL e).getD q 0) 0 (0,List.replicate ((ltsE e).length+1) 0) (ltsE e).length (posV e).1 (posV e).2 (LE e):=
 vis_fr _ e (0,List.replicate ((ltsE e).length+1) 0) hw hb (by simp) (by simp;omega) (fun i hi=>by
  show (posL e).getD (0+1+i) 0=_
  rw [show 0+1+i=i+1 by omega];rfl) (fun p hp=>by simp [List.getD_eq_getElem?_getD,List.getElem?_replicate];split <;> rfl)
theorem one_get (i:Nat):(1:W64).getLsbD i=true↔i=0:=by
 rw [show (1:W64)=bit 0 by decide,bit_get (by omega),decide_eq_true_eq];omega
section
variable {e : Ex}
theorem posF_get (hw:wfE 6 e=true) (hb:hbE e=false) (hz:(ltsE e).length<64) (p:Nat):(posF e).getD p 0=if p=0 then (posV e).1.1 else (posV e).2.2.getD p 0:=by
 have h:=pos_fr hw hb hz
 have hl:(posV e).2.2.length=(ltsE e).length+1:=h.len.trans (by simp)
 unfold posF
 rw [getD_set]
 by_cases hp:p=0
 ·rw [if_pos ⟨hp.symm,by omega⟩,if_pos hp]
 ·rw [if_neg (fun hh=>hp hh.1.symm),if_neg hp]
theorem posF_bd (hw:wfE 6 e=true) (hb:hbE e=false) (hz:(ltsE e).length<64) {p q:Nat} (hp:p<(ltsE e).length+1) (hq:((posF e).getD p 0).getLsbD q=true):0<q∧q≤(ltsE e).length:=by
 have h:=pos_fr hw hb hz
 have hc:(posV e).2.1=(ltsE e).length:=h.cnt.trans (by simp)
 rw [posF_get hw hb hz] at hq
 split at hq
 ·have:=h.fr.fi q hq;rw [hc] at this;exact this
 ·have:=h.fr.cl p q (by omega) (by rw [hc];omega) hq;rw [hc] at this;exact this
theorem posT_get (hw:wfE 6 e=true) (hb:hbE e=false) (hz:(ltsE e).length<64) (q:Nat):(posT e).getLsbD q=true↔(q=0∧(posV e).1.2.2=true)∨(posV e).1.2.1.getLsbD q=true:=by
 unfold posT
 split
 ·rename_i h;rw [or_get,one_get];simp [h,or_comm]
 ·rename_i h;simp [h]
theorem pos_walk {es:List Edg} (hes:∀ x,x∈es↔x∈posE e) (hw:wfE 6 e=true) (hb:hbE e=false) (hz:(ltsE e).length<64):∀ (w:List UInt8) (c:UInt8) (p:Nat) (r:Int),p<(ltsE e).length+1 →
  (Pth es (p:Int) (c :: w) r↔∃ p1 q:Nat,r=(q:Int)∧((posF e).getD p 0).getLsbD p1=true∧Wk (fun p=>(posF e).getD p 0) (fun q=>(posL e).getD q 0) p1 (c :: w) q)
 | [],c,p,r,hp=>by
  constructor
  ·intro h
   cases h with
   | @cons _ q' _ _ _ he t=>
    cases t
    obtain ⟨p',q,_,h2,h3⟩:=(mem_pEs _).1 ((hes _).1 he)
    simp only [Prod.mk.injEq] at h3
    obtain ⟨h4,h5,rfl⟩:=h3
    have:p'=p:=by omega
    subst this
    exact ⟨q,q,rfl,h2,.one h5⟩
  ·rintro ⟨p1,q,rfl,h1,h2⟩
   cases h2 with
   | one h=>exact .cons ((hes _).2 ((mem_pEs _).2 ⟨p,p1,hp,h1,by rw [h]⟩)) (.nil _)
   | cons h he t=>exact absurd rfl t.ne
 | c2 :: w,c,p,r,hp=>by
  constructor
  ·intro h
   cases h with
   | @cons _ q' _ _ _ he t=>
    obtain ⟨p',q,_,h2,h3⟩:=(mem_pEs _).1 ((hes _).1 he)
    simp only [Prod.mk.injEq] at h3
    obtain ⟨h4,h5,rfl⟩:=h3
    have:p'=p:=by omega
    subst this
    have hq:=posF_bd hw hb hz hp h2
    obtain ⟨p2,q2,k1,k2,k3⟩:=(pos_walk hes hw hb hz w c2 q r (by omega)).1 t
    exact ⟨q,q2,k1,h2,.cons h5 k2 k3⟩
  ·rintro ⟨p1,q,rfl,h1,h2⟩
   have hq:=posF_bd hw hb hz hp h1
   cases h2 with
   | @cons _ p2 _ _ _ h he t=>
    exact .cons ((hes _).2 ((mem_pEs _).2 ⟨p,p1,hp,h1,by rw [h]⟩)) ((pos_walk hes hw hb hz w c2 p1 _ (by omega)).2 ⟨p2,q,rfl,he,t⟩)
def psN (e:Ex) (es:List Edg):Nfa:=⟨2,(((ltsE e).length+1:Nat):Int),1,posT e,es⟩
theorem pos_acc {es:List Edg} (hes:∀ x,x∈es↔x∈posE e) (hw:wfE 6 e=true) (hb:hbE e=false) (hz:(ltsE e).length<64) (w:List UInt8):AccP (psN e es) w↔LE e w:=by
 have h:=pos_fr hw hb hz
 have hc:(posV e).2.1=(ltsE e).length:=h.cnt.trans (by simp)
 have hcl:∀ p q,0<p→p≤(posV e).2.1→((posF e).getD p 0).getLsbD q=true→0<q∧q≤(posV e).2.1:=fun p q h1 h2 h3=>by
  have:=posF_bd hw hb hz (p:=p) (by omega) h3;rw [hc];exact this
 have heq:∀ p,0<p→p≤(posV e).2.1→(posF e).getD p 0=(posV e).2.2.getD p 0:=fun p h1 _=>by rw [posF_get hw hb hz,if_neg (by omega)]
 have he0:(posF e).getD 0 0=(posV e).1.1:=by rw [posF_get hw hb hz,if_pos rfl]
 rw [h.fr.sem]
 unfold AccP
 constructor
 ·rintro ⟨p,q,hp,hq,a1,a2,a3⟩
  obtain rfl:p=0:=(one_get p).1 a1
  have a2:=(posT_get hw hb hz q).1 a2
  match w,a3 with
  | [],a3=>
   cases hp0:q with
   | zero=>
    rw [hp0] at a2
    rcases a2 with a2 | a2
    ·exact .inl ⟨rfl,a2.2⟩
    ·have:=h.fr.la 0 a2;omega
   | succ q=>
    rw [hp0] at a3
    have:((0:Nat):Int)=((q+1:Nat):Int):=by
     generalize ((q+1:Nat):Int)=z at a3
     cases a3;rfl
    omega
  | c :: w,a3=>
   obtain ⟨p1,q1,k1,k2,k3⟩:=(pos_walk hes hw hb hz w c 0 _ (by omega)).1 a3
   have:q1=q:=by omega
   subst this
   have hp1:=posF_bd hw hb hz (by omega) k2
   rw [he0] at k2
   have hs:=k3.stay hcl hp1.1 (by omega)
   refine .inr ⟨p1,q1,k2,?_,k3.congr hcl (fun p h1 h2=>(heq p h1 h2).symm) hp1.1 (by omega)⟩
   rcases a2 with a2 | a2
   ·omega
   ·exact a2
 ·rintro (⟨rfl,hn⟩ | ⟨p,q,k1,k2,k3⟩)
  ·exact ⟨0,0,by omega,by omega,(one_get 0).2 rfl,(posT_get hw hb hz 0).2 (.inl ⟨rfl,hn⟩),.nil _⟩
  ·have hp1:=h.fr.fi p k1
   have hs:=k3.stay h.fr.cl hp1.1 hp1.2
   refine ⟨0,q,by omega,by omega,(one_get 0).2 rfl,(posT_get hw hb hz q).2 (.inr k2),?_⟩
   match w,k3 with
   | [],k3=>exact absurd rfl k3.ne
   | c :: w,k3=>exact (pos_walk hes hw hb hz w c 0 _ (by omega)).2 ⟨p,q,rfl,by rw [he0];exact k1,k3.congr h.fr.cl heq hp1.1 hp1.2⟩
theorem pos_wn {es:List Edg} (hes:∀ x,x∈es↔x∈posE e) (hw2:wfE 2 e=true) (hb:hbE e=false) (hz:(ltsE e).length<64):WN (psN e es):=by
 have hw:=wf_mono (by decide:(2:Int)≤6) e hw2
 have h:=pos_fr hw hb hz
 have hc:(posV e).2.1=(ltsE e).length:=h.cnt.trans (by simp)
 have eS:(psN e es).S=(((ltsE e).length+1:Nat):Int):=rfl
 have eL:(psN e es).L=2:=rfl
 refine ⟨by rw [eL];decide,by rw [eS];omega,fun i hi=>?_,fun i hi=>?_,fun x hx=>?_⟩
 ·obtain rfl:i=0:=(one_get i).1 hi
  rw [eS];omega
 ·rw [eS]
  rcases (posT_get hw hb hz i).1 hi with ⟨h1,_⟩ | h1
  ·omega
  ·have:=h.fr.la i h1;omega
 ·obtain ⟨p,q,h1,h2,rfl⟩:=(mem_pEs _).1 ((hes _).1 hx)
  have hq:=posF_bd hw hb hz h1 h2
  have hl:(posL e).getD q 0=(ltsE e).getD (q - 1) 0:=by
   obtain ⟨q',rfl⟩:∃ q',q=q'+1:=⟨q - 1,by omega⟩
   rfl
  have hr:=lts_rng e hw2 _ (getD_mem (xs:=ltsE e) (d:=0) (show q - 1<(ltsE e).length by omega))
  rw [eS,eL]
  dsimp only
  rw [hl];omega
theorem pos_vn {es:List Edg} (hp:es.Perm (posE e)) (hs:es.Pairwise fun a b=>bef b a=false) (hw2:wfE 2 e=true) (hb:hbE e=false) (hz:(ltsE e).length<64):VN (psN e es)∧∀ w,AccP (psN e es) w↔LE e w:=by
 have hw:=wf_mono (by decide:(2:Int)≤6) e hw2
 have hes:∀ x,x∈es↔x∈posE e:=fun x=>hp.mem_iff
 have hnd:es.Pairwise (· ≠ ·):=(pEs_nodup _ _ _).perm hp.symm (fun {x y} h=>h.symm)
 have hc:compE es=es:=compE_none fun i h0 h1=>by
  have:=List.pairwise_iff_getElem.1 hnd (i - 1) i (by omega) h1 (by omega)
  refine decide_eq_false fun h=>this ?_
  rw [List.getD_eq_getElem?_getD,List.getElem?_eq_getElem h1,List.getD_eq_getElem?_getD,List.getElem?_eq_getElem (by omega:i - 1<es.length)] at h
  exact h.symm
 refine ⟨?_,pos_acc hes hw hb hz⟩
 have:=(pos_wn hes hw2 hb hz).vn (List.Perm.refl _) hs
 have e1:compE (psN e es).es=es:=hc
 rw [e1] at this
 exact this
end
end Go.Sx
