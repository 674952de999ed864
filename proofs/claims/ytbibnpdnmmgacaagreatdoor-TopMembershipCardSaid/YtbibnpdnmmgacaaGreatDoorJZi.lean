import Derived.Test.YtbibnpdnmmgacaaGreatDoorJZh
import Derived.Test.YtbibnpdnmmgacaaGreatDoorJZg
import Derived.Lib.Builder
import Derived.Lib.AppendStr
import Derived.Lib.UnsafeStr
import Derived.Laws.Externs
set_option linter.unusedVariables false
set_option linter.unusedSimpArgs false
set_option maxRecDepth 100000
namespace Go.Proofs.YtbibnpdnmmgacaaGreatDoor
open Go.Sx Go.RowKit
set_option maxHeartbeats 800000 in
theorem s_smp (a:Int) (nm:Bool) (e:Ex) (w:World) (F:Nat→Prop) (B:Bs) (l:List Itm) (hB:BsOk B w F) (hA:(forest B l).holds w F) (s:Value) (hm:Itm.deep s e.kids∈l) (j:Ex) (hj:(if nm then some e else simpE e)=some j):CallM Tryz.prog 178 [.agg #[.int .i64 a,.bool nm],.agg #[.int .i64 e.op,.int .i64 e.lt,s]] w F (fun r A o=>∃ sr l',r = .agg #[.int .i64 j.op,.int .i64 j.lt,sr]∧IsSl sr∧A=forest B l'∧(∀ x∈l,x∈l')∧Itm.deep sr j.kids∈l'∧o=[]):=by
 refine specM_of Tryz.func178 rfl (leb rfl) hA ?_
 refine AK.forestSl 0 rfl hm (fun ssl=>?_)
 refine .sr fun _ hK1=>?_
 refine AK.box_ (E:=144) (cs:=[.int .i64 a,.bool nm]) rfl rfl rfl trivial rfl (fun bx2=>?_)
 refine AK.box_ (E:=24) (cs:=[.int .i64 e.op,.int .i64 e.lt,s]) rfl rfl rfl trivial rfl (fun bx3=>?_)
 refine AK.alloc el24 rfl rfl trivial rfl (fun bx4=>?_)
 refine .nt hK1 ?_
 refine .seq fun _ hK2=>?_
 refine .sr fun _ hK3=>?_
 refine .v (.fieldAddr fd144_1 rfl) (.v (.loadBox on4 rfl bsp rfl) (.nt hK3 ?_))
 refine AK.cond rfl (fun hc0=>?_) (fun hc0=>?_)
 ·try simp only [bs] at hc0
  rw [if_pos hc0] at hj
  cases hj
  refine .sr fun _ hK4=>?_
  refine .v (.loadBoxG ag24 rfl bsp rfl rfl) ?_
  refine AK.storeBox 3 (us:=[.int .i64 e.op,.int .i64 e.lt,s]) (cs':=[.int .i64 e.op,.int .i64 e.lt,s]) rfl sz24 rfl rfl rfl rfl oneP (leb rfl) rfl trivial ?_
  refine .nt hK4 (.ret (.then_ret ?_))
  refine AK.retG [.cell 4 24] rfl (.cons (.cell ag24 rfl bsp rfl rfl) (.nil)) (fun w hw=>⟨_,_,_,?_,rfl,Ret.of (hw.pick [0] (by decide) rfl rfl)⟩)
  exact ⟨s,l,rfl,ssl,rfl,fun x hx=>hx,hm,rfl⟩
 ·try simp only [bs] at hc0
  rw [if_neg (by rw [hc0];decide)] at hj
  refine .skip ?_
  refine AK.then_ (hK2 _ ?_)
  refine .sr fun _ hK5=>?_
  refine .v (.loadBoxG ag24 rfl bsp rfl rfl) ?_
  refine AK.callN 0 rfl co100 rfl (fun w Fs hw hh hfr hal=>s_simp e w (Fs 0) B l (hB.later hfr hal 0) (hh.at_ 0 _ rfl) s hm j hj) trivial rfl ?_
  rintro r A o ⟨sr,l2,rfl,ssr,rfl,hs2,hm2,rfl⟩
  refine AK.storeBox 3 (us:=[.int .i64 j.op,.int .i64 j.lt,sr]) (cs':=[.int .i64 j.op,.int .i64 j.lt,sr]) rfl sz24 rfl rfl rfl rfl oneP (leb rfl) rfl trivial ?_
  refine .nt hK5 (.ret ?_)
  refine AK.retG [.cell 4 24] rfl (.cons (.cell ag24 rfl bsp rfl rfl) (.nil)) (fun w hw=>⟨_,_,_,?_,rfl,Ret.of (hw.pick [0] (by decide) rfl rfl)⟩)
  exact ⟨sr,l2,rfl,ssr,rfl,hs2,hm2,rfl⟩
set_option maxHeartbeats 4000000 in
theorem s_dconcat (a:Int) (nm:Bool) (e:Ex) (ho:e.op=5) (ih:∀ i,i<e.kids.length→DerS a nm (e.kids.getD i default)) (w:World) (F:Nat→Prop) (B:Bs) (l:List Itm) (hB:BsOk B w F) (hA:(forest B l).holds w F) (s:Value) (hm:Itm.deep s e.kids∈l) (d:Dv) (hd:dervE a nm e=some d):CallM Tryz.prog 154 [.agg #[.int .i64 a,.bool nm],.agg #[.int .i64 e.op,.int .i64 e.lt,s]] w F (fun r A o=>∃ sb sf l',r = .agg #[.int .i64 d.1.op,.int .i64 d.1.lt,sb,.int .i64 d.2.1.op,.int .i64 d.2.1.lt,sf,.bool d.2.2]∧IsSl sb∧IsSl sf∧A=forest B l'∧(∀ x∈l,x∈l')∧Itm.deep sb d.1.kids∈l'∧Itm.deep sf d.2.1.kids∈l'∧o=[]):=by
 refine specM_of Tryz.func154 rfl (leb rfl) hA ?_
 refine AK.open' 0 rfl hm fun l1 ss h2=>?_
 have hmx:=h2.mx'
 obtain ⟨hlim,BY,SV,N,P,hcat0,hP,h1b,h1s,h3⟩:=dervE_con hd ho
 obtain ⟨hSVn,hBYn⟩:=dervC_len hcat0
 simp only at hSVn hBYn
 obtain ⟨hPn,hPk⟩:=partsD_at hP
 refine .sr fun _ hK1=>?_
 refine AK.box_ (E:=144) (cs:=[.int .i64 a,.bool nm]) rfl rfl rfl trivial rfl (fun bx2=>?_)
 refine AK.box_ (E:=24) (cs:=[.int .i64 e.op,.int .i64 e.lt,s]) rfl rfl rfl trivial rfl (fun bx3=>?_)
 refine AK.alloc el142 rfl rfl trivial rfl (fun bx4=>?_)
 refine .nt hK1 ?_
 refine .sr fun _ hK2=>?_
 refine .as rfl (.nt hK2 ?_)
 refine .sr fun _ hK3=>?_
 refine .v (.fieldAddr fd24_2 rfl) (.v (.loadBox on22 rfl bsp rfl) ?_)
 refine .v (.lenR sl22 rfl (by first | exact rdp | exact RdS.tree hB 0 rfl h2.rw | exact RdS.tree hB 0 rfl (hg0.2.2.1 _ h2.rw) | exact RdS.tree hB 0 rfl (hs5 _ hr4) | exact RdS.tree hB 0 rfl (hg1.2.1 _ (hs5 _ hr4)))) ?_
 refine AK.makeE sl22 el24 rfl rfl (by omega) (by omega) trivial rfl (fun mv0=>?_)
 refine .as rfl (.nt hK3 ?_)
 refine .sr fun _ hK4=>?_
 refine .as rfl (.nt hK4 ?_)
 refine .seq fun _ hK5=>?_
 refine .sr fun _ hK6=>?_
 refine .v (.fieldAddr fd24_2 rfl) (.v (.loadBox on22 rfl bsp rfl) ?_)
 refine .v (.lenR sl22 rfl (by first | exact rdp | exact RdS.tree hB 0 rfl h2.rw | exact RdS.tree hB 0 rfl (hg0.2.2.1 _ h2.rw) | exact RdS.tree hB 0 rfl (hs5 _ hr4) | exact RdS.tree hB 0 rfl (hg1.2.1 _ (hs5 _ hr4)))) ?_
 refine .mv rfl (.nt hK6 (.block ?_))
 refine AK.loopK (X:=Value × List Value × List Value × Bool × List Itm) [(2,_),(4,_),(6,_),(20,_),(21,_)] (fun x=>[(5,x.1),(7,.bool x.2.2.2.1),(22,.int .i64 (x.2.2.1.length:Int))]) (fun x=>[forest B x.2.2.2.2,box bx2 144 2 [.int .i64 a,.bool nm],box bx3 24 3 [.int .i64 e.op,.int .i64 e.lt,s],box bx4 142 7 [.int .i64 0,.int .i64 0,.slice none 0 0,.int .i64 0,.int .i64 0,.slice none 0 0,.bool false],row mv0 24 3 e.kids.length (xcs (fillE e.kids.length SV x.2.2.1.length) (fillVT e.kids.length x.2.2.1)),row x.1 24 3 x.2.1.length (xcs (BY.take x.2.1.length) x.2.1)]) (fun x=>CatI a nm e.kids BY SV N x.2.2.2.1 x.2.2.1.length x.2.1.length∧IsSl x.1∧(∀ y∈l1,y∈x.2.2.2.2)∧Got x.2.2.2.2 BY x.2.1∧Got x.2.2.2.2 SV x.2.2.1) (fun x=>e.kids.length - x.2.2.1.length) ((.slice none 0 0,[],[],true,l1)) slr ?_ ?_ ?_ ?_
 ·exact ⟨CatI.start hcat0,nilSl,fun y hy=>hy,Got.nil _ _,Got.nil _ _⟩
 ·exact slr
 ·exact fun w hw=>by obtain ⟨e1,e2⟩:=fill_zero e.kids.length SV;simp only [List.length_nil];rw [e1,e2];exact hw.ghost 24 3
 ·intro x hg0 _ hK7
  refine .sr fun _ hK8=>?_
  refine .v (.lss rfl rfl) (.nt hK8 ?_)
  refine .seq fun _ hK9=>?_
  refine AK.condD rfl (fun hc0=>?_) (fun hc0=>?_)
  ·have hkl:x.2.2.1.length<e.kids.length:=by omega
   have sk:=h2.sls x.2.2.1.length hkl
   have hcml:=hg0.1.ml
   refine .skip ?_
   refine AK.then_ (hK9 _ ?_)
   refine .seq fun _ hK10=>?_
   refine .block ?_
   refine .sr fun _ hK11=>?_
   refine .mv rfl ?_
   first | refine .v (.iN sl22 rfl rfl (hr:=(by first | exact rdp | exact RdS.tree hB 0 rfl h2.rw | exact RdS.tree hB 0 rfl (hg0.2.2.1 _ h2.rw) | exact RdS.tree hB 0 rfl (hs5 _ hr4) | exact RdS.tree hB 0 rfl (hg1.2.1 _ (hs5 _ hr4))))) ?_ | refine .v (.iK sl22 rfl rfl (hr:=(by first | exact rdp | exact RdS.tree hB 0 rfl h2.rw | exact RdS.tree hB 0 rfl (hg0.2.2.1 _ h2.rw) | exact RdS.tree hB 0 rfl (hs5 _ hr4) | exact RdS.tree hB 0 rfl (hg1.2.1 _ (hs5 _ hr4))))) ?_
   refine .v (.loadE ag24 rfl (by first | exact rdp | exact RdS.tree hB 0 rfl h2.rw | exact RdS.tree hB 0 rfl (hg0.2.2.1 _ h2.rw) | exact RdS.tree hB 0 rfl (hs5 _ hr4) | exact RdS.tree hB 0 rfl (hg1.2.1 _ (hs5 _ hr4))) h2.len rfl (by omega)) ?_
   refine AK.alloc el24 rfl rfl trivial rfl (fun bx9=>?_)
   refine .as rfl ?_
   refine AK.storeBox 6 (us:=[.int .i64 (e.kids.getD x.2.2.1.length default).op,.int .i64 (e.kids.getD x.2.2.1.length default).lt,ss.getD x.2.2.1.length undef]) (cs':=[.int .i64 (e.kids.getD x.2.2.1.length default).op,.int .i64 (e.kids.getD x.2.2.1.length default).lt,ss.getD x.2.2.1.length undef]) rfl sz24 rfl rfl rfl rfl oneP (leb rfl) rfl trivial ?_
   refine .nt hK11 ?_
   refine .seq fun _ hK12=>?_
   refine .sr fun _ hK13=>?_
   refine .mv rfl (.v (.not rfl) (.nt hK13 ?_))
   refine AK.condB rfl (fun hc1=>?_) (fun hc1=>?_)
   ·have hcat:=hg0.1
    rw [hc1] at hcat
    obtain ⟨hsm,hcat2⟩:=hcat.no hkl
    refine .sr fun _ hK14=>?_
    refine .mv rfl (.mv rfl (.v (.loadBoxG ag144 rfl bsp rfl rfl) (.v (.loadBoxG ag24 rfl bsp rfl rfl) ?_)))
    refine AK.callN 0 rfl co178 rfl (fun w Fs hw hh hfr hal=>s_smp a nm _ w (Fs 0) B x.2.2.2.2 (hB.later hfr hal 0) (hh.at_ 0 _ rfl) _ (hg0.2.2.1 _ (h2.kid _ hkl)) _ hsm) trivial rfl ?_
    rintro r A o ⟨sr,l2,rfl,ssr,rfl,hs2,hm2,rfl⟩
    first | refine .v (.iN sl22 rfl rfl (hr:=(by first | exact rdp | exact RdS.tree hB 0 rfl h2.rw | exact RdS.tree hB 0 rfl (hg0.2.2.1 _ h2.rw) | exact RdS.tree hB 0 rfl (hs5 _ hr4) | exact RdS.tree hB 0 rfl (hg1.2.1 _ (hs5 _ hr4))))) ?_ | refine .v (.iK sl22 rfl rfl (hr:=(by first | exact rdp | exact RdS.tree hB 0 rfl h2.rw | exact RdS.tree hB 0 rfl (hg0.2.2.1 _ h2.rw) | exact RdS.tree hB 0 rfl (hs5 _ hr4) | exact RdS.tree hB 0 rfl (hg1.2.1 _ (hs5 _ hr4))))) ?_
    refine AK.storeG 4 rfl sz24 rfl rfl rfl rfl (one'_cons rfl (one'_cons rfl (one'_cons (IsSl.one ssr) one'_nil))) (by omega) (cs':=xcs (fillE e.kids.length SV (x.2.2.1.length+1)) (fillVT e.kids.length (x.2.2.1++[sr]))) (xcs_fill hSVn hkl sr) trivial ?_
    refine .nt hK14 (.exit (.then_exit (.block_exit ?_)))
    refine AK.then_ (hK10 _ ?_)
    refine AK.region ?_
    refine .v (.add rfl rfl (by omega)) ?_
    refine .mv rfl (.nil ?_)
    refine AK.then_ (hK7 _ _ ((x.1,x.2.1,x.2.2.1++[sr],false,l2)) ⟨by simpa using hcat2,hg0.2.1,fun y hy=>hs2 _ (hg0.2.2.1 y hy),hg0.2.2.2.1.later hs2,(hg0.2.2.2.2.later hs2).snoc hm2 ssr⟩ (by simp;omega) (.cons (rfl) (.cons (gB hc1) (.cons (slI rfl (by simp)) (slr)))) (fun w hw=>by have h:=hw.pick [0,1,2,3,4,5] (by decide) rfl rfl;simpa using h))
   ·have hcat:=hg0.1
    rw [hc1] at hcat
    obtain ⟨d1,hd1,hml,hBm,hSk,hcat2⟩:=hcat.yes hkl
    refine .skip ?_
    refine AK.then_ (hK12 _ ?_)
    refine .sr fun _ hK15=>?_
    refine .v (.loadBoxG ag144 rfl bsp rfl rfl) (.v (.loadBoxG ag24 rfl bsp rfl rfl) ?_)
    refine AK.callN 0 rfl co103 rfl (fun w Fs hw hh hfr hal=>ih x.2.2.1.length hkl w (Fs 0) B x.2.2.2.2 (hB.later hfr hal 0) (hh.at_ 0 _ rfl) _ (hg0.2.2.1 _ (h2.kid _ hkl)) d1 hd1) trivial rfl ?_
    rintro r A o ⟨sb,sf,l2,rfl,ssb,ssf,rfl,hs2,hmb,hmf,rfl⟩
    refine AK.alloc el142 rfl rfl trivial rfl (fun bx10=>?_)
    refine AK.storeBox 7 (us:=[.int .i64 d1.1.op,.int .i64 d1.1.lt,sb,.int .i64 d1.2.1.op,.int .i64 d1.2.1.lt,sf,.bool d1.2.2]) (cs':=[.int .i64 d1.1.op,.int .i64 d1.1.lt,sb,.int .i64 d1.2.1.op,.int .i64 d1.2.1.lt,sf,.bool d1.2.2]) rfl sz142 rfl rfl rfl rfl oneP (leb rfl) rfl trivial ?_
    refine .nt hK15 ?_
    try (conv=>enter [2,2];simp only [nrm])
    refine AK.heldS [box bx10 142 7 [.int .i64 d1.1.op,.int .i64 d1.1.lt,sb,.int .i64 d1.2.1.op,.int .i64 d1.2.1.lt,sf,.bool d1.2.2],rowX mv0 24 3 e.kids.length] 15 (fun _ hw=>by have h:=HW.toX 1 rfl (hw.pick [7,4] (by decide) rfl rfl);exact h) mixed ?_
    refine HeldK.firstS (fun _ hw=>by have h:=HW.toX 1 rfl (hw.pick [7,4] (by decide) rfl rfl);exact h) 0 (fuel:=14) (listed':=(lb 15 1)) _ rfl krf krf rfl (Yl.move rfl) trivial rfl ?_
    refine HeldK.firstS (fun _ hw=>by have h:=HW.toX 1 rfl (hw.pick [7,4] (by decide) rfl rfl);exact h) 1 (fuel:=13) (listed':=(lb 15 3)) _ rfl krf krf rfl (Yl.move rfl) trivial rfl ?_
    refine HeldK.firstS (fun _ hw=>by have h:=HW.toX 1 rfl (hw.pick [7,4] (by decide) rfl rfl);exact h) 2 (fuel:=12) (listed':=(lb 15 7)) _ rfl krf krf rfl (Yl.move rfl) trivial rfl ?_
    refine HeldK.firstS (fun _ hw=>by have h:=HW.toX 1 rfl (hw.pick [7,4] (by decide) rfl rfl);exact h) 3 (fuel:=11) (listed':=(lb 15 15)) _ rfl krf krf rfl (Yl.fieldAddr fd142_0 rfl) trivial rfl ?_
    refine HeldK.firstS (fun _ hw=>by have h:=HW.toX 1 rfl (hw.pick [7,4] (by decide) rfl rfl);exact h) 4 (fuel:=10) (listed':=(lb 15 31)) _ rfl krf krf rfl (Yl.loadBoxG ag24 rfl bsp rfl rfl) trivial rfl ?_
    refine HeldK.firstS (fun _ hw=>by have h:=HW.toX 1 rfl (hw.pick [7,4] (by decide) rfl rfl);exact h) 7 (fuel:=9) (listed':=(lb 15 159)) _ rfl krf krf rfl (Yl.fieldAddr fd142_1 rfl) trivial rfl ?_
    refine HeldK.firstS (fun _ hw=>by have h:=HW.toX 1 rfl (hw.pick [7,4] (by decide) rfl rfl);exact h) 8 (fuel:=8) (listed':=(lb 15 415)) _ rfl krf krf rfl (Yl.loadBoxG ag24 rfl bsp rfl rfl) trivial rfl ?_
    refine HeldK.firstS (fun _ hw=>by have h:=HW.toX 1 rfl (hw.pick [7,4] (by decide) rfl rfl);exact h) 9 (fuel:=7) (listed':=(lb 15 927)) _ rfl krf krf rfl (Yl.fieldAddr fd142_2 rfl) trivial rfl ?_
    refine HeldK.firstS (fun _ hw=>by have h:=HW.toX 1 rfl (hw.pick [7,4] (by decide) rfl rfl);exact h) 10 (fuel:=6) (listed':=(lb 15 1951)) _ rfl krf krf rfl (Yl.loadBox on4 rfl bsp rfl) trivial rfl ?_
    refine HeldK.one 5 (fuel:=5) (listed':=(lb 15 1983)) krf rfl krf ?_
    refine AK.lit (xs:=[.tmp 42]) sl22 el24 rfl rfl rfl (by simp [Value.cells]) (by decide) (by decide) trivial rfl (fun lv=>?_)
    refine .nil ?_
    try (conv=>enter [2,2];simp only [nrm])
    refine HeldK.backS (fun _ hw=>by have h:=HW.toX 1 rfl (hw.pick [7,4] (by decide) rfl rfl);exact h) ?_
    refine HeldK.one 6 (fuel:=4) (listed':=(lb 15 2047)) krf rfl krf ?_
    refine AK.appendS 5 rfl sl22 el24 rfl (by decide) rfl rfl rfl (by first | exact rdp | exact RdS.tree hB 0 rfl h2.rw | exact RdS.tree hB 0 rfl (hg0.2.2.1 _ h2.rw) | exact RdS.tree hB 0 rfl (hs5 _ hr4) | exact RdS.tree hB 0 rfl (hg1.2.1 _ (hs5 _ hr4))) (one'_cons rfl (one'_cons rfl (one'_cons (IsSl.one ssb) one'_nil))) (by omega) (by omega) trivial rfl (fun av44=>?_)
    refine AK.shape 5 rfl (fun sav=>?_)
    refine .nil ?_
    try (conv=>enter [2,2];simp only [nrm])
    refine HeldK.backS (fun _ hw=>by have h:=HW.toX 1 rfl (hw.pick [7,4] (by decide) rfl rfl);exact h) ?_
    refine HeldK.firstS (fun _ hw=>by have h:=HW.toX 1 rfl (hw.pick [7,4] (by decide) rfl rfl);exact h) 11 (fuel:=3) (listed':=(lb 15 4095)) _ rfl krf krf rfl (Yl.assign rfl) trivial rfl ?_
    refine HeldK.firstS (fun _ hw=>by have h:=HW.toX 1 rfl (hw.pick [7,4] (by decide) rfl rfl);exact h) 12 (fuel:=2) (listed':=(lb 15 8191)) _ rfl krf krf rfl (Yl.idxX 1 rfl sl22 rfl rfl (by decide) (by omega)) trivial rfl ?_
    refine HeldK.one 13 (fuel:=1) (listed':=(lb 15 16383)) krf rfl krf ?_
    refine AK.storeG 4 rfl sz24 rfl rfl rfl rfl (one'_cons rfl (one'_cons rfl (one'_cons (IsSl.one ssf) one'_nil))) (by omega) (cs':=xcs (fillE e.kids.length SV (x.2.2.1.length+1)) (fillVT e.kids.length (x.2.2.1++[sf]))) ((by have h:=xcs_fill hSVn hkl sf;rw [hSk] at h;exact h)) trivial ?_
    refine .nil ?_
    try (conv=>enter [2,2];simp only [nrm])
    refine HeldK.backS (fun _ hw=>by have h:=HW.toX 1 rfl (hw.pick [7,4] (by decide) rfl rfl);exact h) ?_
    refine HeldK.firstS (fun _ hw=>by have h:=HW.toX 1 rfl (hw.pick [7,4] (by decide) rfl rfl);exact h) 14 (fuel:=0) (listed':=(lb 15 32767)) _ rfl krf krf rfl (Yl.assign rfl) trivial rfl ?_
    refine HeldK.done krf ?_
    refine .block_normal ?_
    refine AK.then_ (hK10 _ ?_)
    refine AK.region ?_
    refine .v (.add rfl rfl (by omega)) ?_
    refine .mv rfl (.nil ?_)
    refine AK.then_ (hK7 _ _ ((av44,x.2.1++[sb],x.2.2.1++[sf],d1.2.2,l2)) ⟨by simpa using hcat2,sav,fun y hy=>hs2 _ (hg0.2.2.1 y hy),(hg0.2.2.2.1.later hs2).snoc (by rw [hBm];exact hmb) ssb,(hg0.2.2.2.2.later hs2).snoc (by rw [hSk];exact hmf) ssf⟩ (by simp;omega) (.cons (rfl) (.cons (rfl) (.cons (slI rfl (by simp)) (slr)))) (fun w hw=>by have h:=hw.pick [0,1,2,3,4,5] (by decide) rfl rfl;dsimp only;rw [List.length_append,List.length_append,List.length_singleton,List.length_singleton,take_snocD default BY x.2.1.length hml,← xcs_snoc _ _ _ _ (by simp;omega),hBm];exact h))
  ·have hkn:x.2.2.1.length=e.kids.length:=by have:=hg0.1.kl;omega
   have hcf:=hg0.1
   rw [hkn] at hcf
   obtain ⟨hmB,hnN⟩:=hcf.fin
   refine AK.close' 0 5 BY x.2.1 (by decide) rfl rfl hmB (by rw [hmB,List.take_length]) hmB (fun k hk=>hg0.2.2.2.1.d k (by omega)) (fun l4 hs4 hm4 hr4=>?_)
   refine AK.close' 0 4 SV x.2.2.1 (by decide) rfl rfl hSVn.symm (by rw [hkn];obtain ⟨e1,e2⟩:=fill_full hSVn hkn;rw [e1,e2]) (by omega) (fun k hk=>hs4 _ (hg0.2.2.2.2.d k (by omega))) (fun l5 hs5 hm5 hr5=>?_)
   refine AK.own' [forest B l5,box bx2 144 2 [.int .i64 a,.bool nm],box bx3 24 3 [.int .i64 e.op,.int .i64 e.lt,s],box bx4 142 7 [.int .i64 0,.int .i64 0,.slice none 0 0,.int .i64 0,.int .i64 0,.slice none 0 0,.bool false]] (fun w hw=>hw.pick [0,1,2,3] (by decide) rfl rfl) ?_
   refine .exit (.then_exit (.then_exit (.block_exit ?_)))
   refine AK.then_ (hK5 _ ?_)
   refine .sr fun _ hK16=>?_
   refine .mv rfl ?_
   refine .v (.lenR sl22 rfl (by first | exact rdp | exact RdS.tree hB 0 rfl h2.rw | exact RdS.tree hB 0 rfl (hg0.2.2.1 _ h2.rw) | exact RdS.tree hB 0 rfl (hs5 _ hr4) | exact RdS.tree hB 0 rfl (hg1.2.1 _ (hs5 _ hr4)))) ?_
   refine AK.makeE sl22 el24 rfl rfl (by omega) (by omega) trivial rfl (fun mv1=>?_)
   refine .as rfl (.nt hK16 ?_)
   refine .seq fun _ hK17=>?_
   refine .sr fun _ hK18=>?_
   refine .mv rfl ?_
   refine .v (.lenR sl22 rfl (by first | exact rdp | exact RdS.tree hB 0 rfl h2.rw | exact RdS.tree hB 0 rfl (hg0.2.2.1 _ h2.rw) | exact RdS.tree hB 0 rfl (hs5 _ hr4) | exact RdS.tree hB 0 rfl (hg1.2.1 _ (hs5 _ hr4)))) ?_
   refine .mv rfl (.nt hK18 (.block ?_))
   refine AK.loopK (X:=List Value × List Itm) [(4,_),(6,_),(7,_),(11,_),(54,_),(55,_)] (fun y=>[(56,.int .i64 (y.1.length:Int))]) (fun y=>[forest B y.2,box bx2 144 2 [.int .i64 a,.bool nm],box bx3 24 3 [.int .i64 e.op,.int .i64 e.lt,s],box bx4 142 7 [.int .i64 0,.int .i64 0,.slice none 0 0,.int .i64 0,.int .i64 0,.slice none 0 0,.bool false],row mv1 24 3 BY.length (xcs (fillE BY.length P y.1.length) (fillVT BY.length y.1))]) (fun y=>y.1.length≤BY.length∧(∀ z∈l5,z∈y.2)∧Got y.2 P y.1) (fun y=>BY.length - y.1.length) (([],l5)) slr ?_ ?_ ?_ ?_
   ·exact ⟨Nat.zero_le _,fun z hz=>hz,Got.nil _ _⟩
   ·exact slr
   ·exact fun w hw=>by obtain ⟨e1,e2⟩:=fill_zero BY.length P;simp only [List.length_nil];rw [e1,e2];exact hw
   ·intro y hg1 _ hK19
    refine .sr fun _ hK20=>?_
    refine .v (.lss rfl rfl) (.nt hK20 ?_)
    refine .seq fun _ hK21=>?_
    refine AK.condD rfl (fun hc2=>?_) (fun hc2=>?_)
    ·have hil:y.1.length<BY.length:=by omega
     have sk2:=hg0.2.2.2.1.s y.1.length (by omega)
     have hdk:=hs5 _ (hs4 _ (hg0.2.2.2.1.d y.1.length (by omega)))
     have hpk:=hPk y.1.length hil
     refine .skip ?_
     refine AK.then_ (hK21 _ ?_)
     refine .seq fun _ hK22=>?_
     refine .block ?_
     refine .sr fun _ hK23=>?_
     refine .mv rfl ?_
     first | refine .v (.iN sl22 rfl rfl (hr:=(by first | exact rdp | exact RdS.tree hB 0 rfl h2.rw | exact RdS.tree hB 0 rfl (hg0.2.2.1 _ h2.rw) | exact RdS.tree hB 0 rfl (hs5 _ hr4) | exact RdS.tree hB 0 rfl (hg1.2.1 _ (hs5 _ hr4))))) ?_ | refine .v (.iK sl22 rfl rfl (hr:=(by first | exact rdp | exact RdS.tree hB 0 rfl h2.rw | exact RdS.tree hB 0 rfl (hg0.2.2.1 _ h2.rw) | exact RdS.tree hB 0 rfl (hs5 _ hr4) | exact RdS.tree hB 0 rfl (hg1.2.1 _ (hs5 _ hr4))))) ?_
     refine .v (.loadE ag24 rfl (by first | exact rdp | exact RdS.tree hB 0 rfl h2.rw | exact RdS.tree hB 0 rfl (hg0.2.2.1 _ h2.rw) | exact RdS.tree hB 0 rfl (hs5 _ hr4) | exact RdS.tree hB 0 rfl (hg1.2.1 _ (hs5 _ hr4))) (by omega) rfl (by omega)) ?_
     refine AK.alloc el24 rfl rfl trivial rfl (fun bx13=>?_)
     refine .as rfl ?_
     refine AK.storeBox 5 (us:=[.int .i64 (BY.getD y.1.length default).op,.int .i64 (BY.getD y.1.length default).lt,x.2.1.getD y.1.length undef]) (cs':=[.int .i64 (BY.getD y.1.length default).op,.int .i64 (BY.getD y.1.length default).lt,x.2.1.getD y.1.length undef]) rfl sz24 rfl rfl rfl rfl oneP (leb rfl) rfl trivial ?_
     refine .nt hK23 ?_
     refine .seq fun _ hK24=>?_
     refine .sr fun _ hK25=>?_
     refine .v (.fieldAddr fd24_0 rfl) (.v (.loadBox on3 rfl bsp rfl) (.v (.eql rfl rfl) (.nt hK25 ?_)))
     refine AK.condD rfl (fun hc3=>?_) (fun hc3=>?_)
     ·rw [if_pos hc3] at hpk
      have hPe:BY.getD y.1.length default=P.getD y.1.length default:=Option.some.inj hpk
      refine .sr fun _ hK26=>?_
      refine .mv rfl (.mv rfl (.v (.loadBoxG ag24 rfl bsp rfl rfl) ?_))
      first | refine .v (.iN sl22 rfl rfl (hr:=(by first | exact rdp | exact RdS.tree hB 0 rfl h2.rw | exact RdS.tree hB 0 rfl (hg0.2.2.1 _ h2.rw) | exact RdS.tree hB 0 rfl (hs5 _ hr4) | exact RdS.tree hB 0 rfl (hg1.2.1 _ (hs5 _ hr4))))) ?_ | refine .v (.iK sl22 rfl rfl (hr:=(by first | exact rdp | exact RdS.tree hB 0 rfl h2.rw | exact RdS.tree hB 0 rfl (hg0.2.2.1 _ h2.rw) | exact RdS.tree hB 0 rfl (hs5 _ hr4) | exact RdS.tree hB 0 rfl (hg1.2.1 _ (hs5 _ hr4))))) ?_
      refine AK.storeG 4 rfl sz24 rfl rfl rfl rfl (one'_cons rfl (one'_cons rfl (one'_cons (IsSl.one sk2) one'_nil))) (by omega) (cs':=xcs (fillE BY.length P (y.1.length+1)) (fillVT BY.length (y.1++[x.2.1.getD y.1.length undef]))) ((by have h:=xcs_fill hPn hil (x.2.1.getD y.1.length undef);rw [← hPe] at h;exact h)) trivial ?_
      refine .nt hK26 (.exit (.then_exit (.block_exit ?_)))
      refine AK.then_ (hK22 _ ?_)
      refine AK.region ?_
      refine .v (.add rfl rfl (by omega)) ?_
      refine .mv rfl (.nil ?_)
      refine AK.then_ (hK19 _ _ ((y.1++[x.2.1.getD y.1.length undef],y.2)) ⟨by simp;omega,hg1.2.1,hg1.2.2.snoc (by rw [← hPe];exact hg1.2.1 _ hdk) sk2⟩ (by simp;omega) (.cons (slI rfl (by simp)) (slr)) (fun w hw=>by have h:=hw.pick [0,1,2,3,4] (by decide) rfl rfl;simpa using h))
     ·rw [if_neg hc3] at hpk
      refine .skip ?_
      refine AK.then_ (hK24 _ ?_)
      refine .seq fun _ hK27=>?_
      try (conv=>enter [2,2];simp only [nrm])
      refine AK.heldS _ 8 (fun _ hw=>hw.pick [0,1,2,3,4,5] (by decide) rfl rfl) mixed ?_
      refine HeldK.firstS (fun _ hw=>hw.pick [0,1,2,3,4,5] (by decide) rfl rfl) 0 (fuel:=7) (listed':=(lb 8 1)) _ rfl krf krf rfl (Yl.loadBoxG ag24 rfl bsp rfl rfl) trivial rfl ?_
      refine HeldK.firstS (fun _ hw=>hw.pick [0,1,2,3,4,5] (by decide) rfl rfl) 2 (fuel:=6) (listed':=(lb 8 5)) _ rfl krf krf rfl (Yl.move rfl) trivial rfl ?_
      refine HeldK.firstS (fun _ hw=>hw.pick [0,1,2,3,4,5] (by decide) rfl rfl) 3 (fuel:=5) (listed':=(lb 8 13)) _ rfl krf krf rfl (Yl.move rfl) trivial rfl ?_
      refine HeldK.firstS (fun _ hw=>hw.pick [0,1,2,3,4,5] (by decide) rfl rfl) 4 (fuel:=4) (listed':=(lb 8 29)) _ rfl krf krf rfl (Yl.addE (((y.1.length+1:Nat):Int)) rfl rfl (by omega) (by omega)) trivial rfl ?_
      refine HeldK.firstS (fun _ hw=>hw.pick [0,1,2,3,4,5] (by decide) rfl rfl) 5 (fuel:=3) (listed':=(lb 8 61)) _ rfl krf krf rfl (Yl.sliceFr (CutS.tree hB 0 rfl (hg1.2.1 _ hr5)) sl22 rfl rfl (by omega)) trivial rfl ?_
      refine HeldK.one 1 (fuel:=2) (listed':=(lb 8 63)) krf rfl krf ?_
      refine AK.lit (xs:=[.tmp 68]) sl22 el24 rfl rfl rfl (by simp [Value.cells]) (by decide) (by decide) trivial rfl (fun lf=>?_)
      refine .nil ?_
      try (conv=>enter [2,2];simp only [nrm])
      refine HeldK.backS (fun _ hw=>hw.pick [0,1,2,3,4,5] (by decide) rfl rfl) ?_
      refine HeldK.one 6 (fuel:=1) (listed':=(lb 8 127)) krf rfl krf ?_
      refine AK.appendS 6 rfl sl22 el24 rfl (by decide) rfl rfl rfl ((RdS.tree hB 0 rfl (hg1.2.1 _ hr5)).fr (CutS.tree hB 0 rfl (hg1.2.1 _ hr5)) (by omega)) (fun u hu=>one'_ecs SV x.2.2.1 (all_getD fun j hj=>hg0.2.2.2.2.s j hj) u (List.mem_of_mem_drop hu)) (by omega) (by omega) trivial rfl (fun av74=>?_)
      refine .nil ?_
      try (conv=>enter [2,2];simp only [nrm])
      refine HeldK.backS (fun _ hw=>hw.pick [0,1,2,3,4,5] (by decide) rfl rfl) ?_
      refine HeldK.firstS (fun _ hw=>hw.pick [0,1,2,3,4,5] (by decide) rfl rfl) 7 (fuel:=0) (listed':=(lb 8 255)) _ rfl krf krf rfl (Yl.assign rfl) trivial rfl ?_
      refine HeldK.done krf ?_
      refine AK.then_ (hK27 _ ?_)
      refine AK.region ?_
      refine .mv rfl (.mv rfl (.mv rfl ?_))
      refine AK.close' 0 6 (BY.getD y.1.length default :: SV.drop (y.1.length+1)) (x.2.1.getD y.1.length undef :: x.2.2.1.drop (y.1.length+1)) (by decide) rfl rfl (by rw [List.length_cons,List.length_drop,hSVn];omega) (by rw [xcs_cons,← xcs_drop _ _ _ (by omega)];rfl) (by simp;omega) (deep_cons_drop (hg1.2.1 _ hdk) (hg0.2.2.2.2.later fun z hz=>hg1.2.1 _ (hs5 _ (hs4 _ hz))) (by omega)) (fun l6 hs6 hm6 hr6=>?_)
      refine AK.callN 0 rfl co150 rfl (fun w Fs hw hh hfr hal=>s_join w (Fs 0) B l6 (hB.later hfr hal 0) (hh.at_ 0 _ rfl) 5 _ _ hm6 _ hpk) trivial rfl ?_
      rintro r A o ⟨sr,l7,rfl,ssr,rfl,hs7,hm7,rfl⟩
      first | refine .v (.iN sl22 rfl rfl (hr:=(by first | exact rdp | exact RdS.tree hB 0 rfl h2.rw | exact RdS.tree hB 0 rfl (hg0.2.2.1 _ h2.rw) | exact RdS.tree hB 0 rfl (hs5 _ hr4) | exact RdS.tree hB 0 rfl (hg1.2.1 _ (hs5 _ hr4))))) ?_ | refine .v (.iK sl22 rfl rfl (hr:=(by first | exact rdp | exact RdS.tree hB 0 rfl h2.rw | exact RdS.tree hB 0 rfl (hg0.2.2.1 _ h2.rw) | exact RdS.tree hB 0 rfl (hs5 _ hr4) | exact RdS.tree hB 0 rfl (hg1.2.1 _ (hs5 _ hr4))))) ?_
      refine AK.storeG 4 rfl sz24 rfl rfl rfl rfl (one'_cons rfl (one'_cons rfl (one'_cons (IsSl.one ssr) one'_nil))) (by omega) (cs':=xcs (fillE BY.length P (y.1.length+1)) (fillVT BY.length (y.1++[sr]))) (xcs_fill hPn hil sr) trivial ?_
      refine .nil (.block_normal ?_)
      refine AK.then_ (hK22 _ ?_)
      refine AK.region ?_
      refine .v (.add rfl rfl (by omega)) ?_
      refine .mv rfl (.nil ?_)
      refine AK.then_ (hK19 _ _ ((y.1++[sr],l7)) ⟨by simp;omega,fun z hz=>hs7 _ (hs6 _ (hg1.2.1 z hz)),(hg1.2.2.later (fun z hz=>hs7 _ (hs6 _ hz))).snoc hm7 ssr⟩ (by simp;omega) (.cons (slI rfl (by simp)) (slr)) (fun w hw=>by have h:=hw.pick [0,1,2,3,4] (by decide) rfl rfl;simpa using h))
    ·have hil:y.1.length=BY.length:=by omega
     refine AK.close' 0 4 P y.1 (by decide) rfl rfl hPn.symm (by rw [hil];obtain ⟨e1,e2⟩:=fill_full hPn hil;rw [e1,e2]) (by omega) (fun k hk=>hg1.2.2.d k (by omega)) (fun l8 hs8 hm8 hr8=>?_)
     refine .exit (.then_exit (.then_exit (.block_exit ?_)))
     refine AK.then_ (hK17 _ ?_)
     refine .sr fun _ hK28=>?_
     refine .mv rfl ?_
     refine AK.callN 0 rfl co150 rfl (fun w Fs hw hh hfr hal=>s_join w (Fs 0) B l8 (hB.later hfr hal 0) (hh.at_ 0 _ rfl) 4 _ _ hm8 d.1 h1b) trivial rfl ?_
     rintro r A o ⟨sr1,l9,rfl,ssr1,rfl,hs9,hm9,rfl⟩
     refine .mv rfl ?_
     refine AK.callN 0 rfl co150 rfl (fun w Fs hw hh hfr hal=>s_join w (Fs 0) B l9 (hB.later hfr hal 0) (hh.at_ 0 _ rfl) 5 _ _ (hs9 _ (hs8 _ (hg1.2.1 _ hm5))) d.2.1 h1s) trivial rfl ?_
     rintro r A o ⟨sr2,l10,rfl,ssr2,rfl,hs10,hm10,rfl⟩
     refine .mv rfl ?_
     refine .v (.build (parts:=[(0,.tmp 82),(1,.tmp 84),(2,.tmp 85)]) (cs:=#[.int .i64 d.1.op,.int .i64 d.1.lt,sr1,.int .i64 d.2.1.op,.int .i64 d.2.1.lt,sr2,.bool x.2.2.2.1]) rfl (by obtain ⟨_,_,_,rfl⟩:=ssr1;obtain ⟨_,_,_,rfl⟩:=ssr2;kernel_rfl)) ?_
     refine AK.storeBox 3 (us:=[.int .i64 d.1.op,.int .i64 d.1.lt,sr1,.int .i64 d.2.1.op,.int .i64 d.2.1.lt,sr2,.bool x.2.2.2.1]) (cs':=[.int .i64 d.1.op,.int .i64 d.1.lt,sr1,.int .i64 d.2.1.op,.int .i64 d.2.1.lt,sr2,.bool x.2.2.2.1]) rfl sz142 rfl rfl rfl rfl oneP (leb rfl) rfl trivial ?_
     refine .nt hK28 (.ret ?_)
     refine AK.retG [.cell 4 142] rfl (.cons (.cell ag142 rfl bsp rfl rfl) (.nil)) (fun w hw=>⟨_,_,_,?_,rfl,Ret.of (hw.pick [0] (by decide) rfl rfl)⟩)
     rw [show x.2.2.2.1=d.2.2 from by rw [h3,hnN]]
     exact ⟨sr1,sr2,l10,rfl,ssr1,ssr2,rfl,fun z hz=>hs10 _ (hs9 _ (hs8 _ (hg1.2.1 _ (hs5 _ (hs4 _ (hg0.2.2.1 _ (h2.sub z hz))))))),hs10 _ hm9,hm10,rfl⟩
end Go.Proofs.YtbibnpdnmmgacaaGreatDoor
namespace Go.Proofs.YtbibnpdnmmgacaaGreatDoor
open Go.Sx Go.RowKit
set_option maxHeartbeats 4000000 in
theorem s_der_step (a:Int) (nm:Bool) (e:Ex) (ih:∀ i,i<e.kids.length→DerS a nm (e.kids.getD i default)) (w:World) (F:Nat→Prop) (B:Bs) (l:List Itm) (hB:BsOk B w F) (hA:(forest B l).holds w F) (s:Value) (hm:Itm.deep s e.kids∈l) (d:Dv) (hd:dervE a nm e=some d):CallM Tryz.prog 103 [.agg #[.int .i64 a,.bool nm],.agg #[.int .i64 e.op,.int .i64 e.lt,s]] w F (fun r A o=>∃ sb sf l',r = .agg #[.int .i64 d.1.op,.int .i64 d.1.lt,sb,.int .i64 d.2.1.op,.int .i64 d.2.1.lt,sf,.bool d.2.2]∧IsSl sb∧IsSl sf∧A=forest B l'∧(∀ x∈l,x∈l')∧Itm.deep sb d.1.kids∈l'∧Itm.deep sf d.2.1.kids∈l'∧o=[]):=by
 refine specM_of Tryz.func103 rfl (leb rfl) hA ?_
 refine AK.open' 0 rfl hm fun l1 ss h2=>?_
 have hmx:=h2.mx'
 refine .sr fun _ hK1=>?_
 refine AK.box_ (E:=144) (cs:=[.int .i64 a,.bool nm]) rfl rfl rfl trivial rfl (fun bx2=>?_)
 refine AK.box_ (E:=24) (cs:=[.int .i64 e.op,.int .i64 e.lt,s]) rfl rfl rfl trivial rfl (fun bx3=>?_)
 refine AK.alloc el142 rfl rfl trivial rfl (fun bx4=>?_)
 refine .nt hK1 ?_
 refine .sr fun _ hK2=>?_
 refine .v (.build (parts:=[(0,.const (.int .i64 1))]) (cs:=#[.int .i64 emptyE.op,.int .i64 emptyE.lt,.slice none 0 0]) rfl (by kernel_rfl)) ?_
 refine .v (.build (parts:=[(0,.const (.int .i64 2))]) (cs:=#[.int .i64 unitE.op,.int .i64 unitE.lt,.slice none 0 0]) rfl (by kernel_rfl)) ?_
 refine AK.alloc el24 rfl rfl trivial rfl (fun bx5=>?_)
 refine AK.alloc el24 rfl rfl trivial rfl (fun bx6=>?_)
 refine AK.storeBox 4 (us:=[.int .i64 emptyE.op,.int .i64 emptyE.lt,nilV]) (cs':=[.int .i64 emptyE.op,.int .i64 emptyE.lt,nilV]) rfl sz24 rfl rfl rfl rfl oneP (leb rfl) rfl trivial ?_
 refine AK.storeBox 5 (us:=[.int .i64 unitE.op,.int .i64 unitE.lt,nilV]) (cs':=[.int .i64 unitE.op,.int .i64 unitE.lt,nilV]) rfl sz24 rfl rfl rfl rfl oneP (leb rfl) rfl trivial ?_
 refine .nt hK2 ?_
 refine .seq fun _ hK3=>?_
 refine .sr fun _ hK4=>?_
 refine .v (.fieldAddr fd24_0 rfl) (.v (.loadBox on3 rfl bsp rfl) (.nt hK4 (.block ?_)))
 refine .sr fun _ hK5=>?_
 refine .v (.eql rfl rfl) (.as rfl (.nt hK5 ?_))
 refine AK.condD rfl (fun hc0=>?_) (fun hc0=>?_)
 ·refine .sr fun _ hK6=>?_
  refine .v (.loadBoxG ag24 rfl bsp rfl rfl) (.v (.loadBoxG ag24 rfl bsp rfl rfl) ?_)
  refine .v (.build (parts:=[(0,.tmp 15),(1,.tmp 16),(2,.const (.bool true))]) (cs:=#[.int .i64 emptyE.op,.int .i64 emptyE.lt,nilV,.int .i64 unitE.op,.int .i64 unitE.lt,nilV,.bool true]) rfl (by kernel_rfl)) ?_
  refine AK.storeBox 3 (us:=[.int .i64 emptyE.op,.int .i64 emptyE.lt,nilV,.int .i64 unitE.op,.int .i64 unitE.lt,nilV,.bool true]) (cs':=[.int .i64 emptyE.op,.int .i64 emptyE.lt,nilV,.int .i64 unitE.op,.int .i64 unitE.lt,nilV,.bool true]) rfl sz142 rfl rfl rfl rfl oneP (leb rfl) rfl trivial ?_
  refine .nt hK6 (.ret (.block_ret (.then_ret ?_)))
  refine AK.add' 0 (.deep nilV []) rfl (fun R=>RdK.nil R) (fun l2 hs2 hm2=>?_)
  refine AK.retG [.cell 4 142] rfl (.cons (.cell ag142 rfl bsp rfl rfl) (.nil)) (fun w hw=>⟨_,_,_,?_,rfl,Ret.of (hw.pick [0] (by decide) rfl rfl)⟩)
  obtain rfl:=dervE_unit hd hc0
  exact ⟨nilV,nilV,l2,rfl,nilSl,nilSl,rfl,fun y hy=>hs2 _ (h2.sub y hy),hm2,hm2,rfl⟩
 ·refine .sr fun _ hK7=>?_
  refine .v (.eql rfl rfl) (.as rfl (.nt hK7 ?_))
  refine AK.condD rfl (fun hc1=>?_) (fun hc1=>?_)
  ·refine .seq fun _ hK8=>?_
   refine .sr fun _ hK9=>?_
   refine .v (.fieldAddr fd24_1 rfl) (.v (.loadBox on3 rfl bsp rfl) (.v (.fieldAddr fd144_0 rfl) (.v (.loadBox on3 rfl bsp rfl) (.v (.eql rfl rfl) (.nt hK9 ?_)))))
   refine AK.condD rfl (fun hc2=>?_) (fun hc2=>?_)
   ·refine AK.region ?_
    refine .v (.loadBoxG ag24 rfl bsp rfl rfl) ?_
    refine AK.storeBox 4 (us:=[.int .i64 unitE.op,.int .i64 unitE.lt,nilV]) (cs':=[.int .i64 unitE.op,.int .i64 unitE.lt,nilV]) rfl sz24 rfl rfl rfl rfl oneP (leb rfl) rfl trivial ?_
    refine .nt hK8 ?_
    refine .sr fun _ hK10=>?_
    refine .v (.loadBoxG ag24 rfl bsp rfl rfl) (.v (.fieldAddr fd24_1 rfl) (.v (.loadBox on3 rfl bsp rfl) ?_))
    refine .v (.build (parts:=[(0,.const (.int .i64 3)),(1,.tmp 28)]) (cs:=#[.int .i64 3,.int .i64 e.lt,.slice none 0 0]) rfl (by kernel_rfl)) ?_
    refine .v (.build (parts:=[(0,.tmp 26),(1,.tmp 29),(2,.const (.bool false))]) (cs:=#[.int .i64 unitE.op,.int .i64 unitE.lt,nilV,.int .i64 (Ex.mk 3 e.lt []).op,.int .i64 (Ex.mk 3 e.lt []).lt,nilV,.bool false]) rfl (by kernel_rfl)) ?_
    refine AK.storeBox 3 (us:=[.int .i64 unitE.op,.int .i64 unitE.lt,nilV,.int .i64 (Ex.mk 3 e.lt []).op,.int .i64 (Ex.mk 3 e.lt []).lt,nilV,.bool false]) (cs':=[.int .i64 unitE.op,.int .i64 unitE.lt,nilV,.int .i64 (Ex.mk 3 e.lt []).op,.int .i64 (Ex.mk 3 e.lt []).lt,nilV,.bool false]) rfl sz142 rfl rfl rfl rfl oneP (leb rfl) rfl trivial ?_
    refine .nt hK10 (.ret (.block_ret (.then_ret ?_)))
    refine AK.add' 0 (.deep nilV []) rfl (fun R=>RdK.nil R) (fun l2 hs2 hm2=>?_)
    refine AK.retG [.cell 4 142] rfl (.cons (.cell ag142 rfl bsp rfl rfl) (.nil)) (fun w hw=>⟨_,_,_,?_,rfl,Ret.of (hw.pick [0] (by decide) rfl rfl)⟩)
    obtain rfl:=dervE_let hd hc1
    rw [if_pos hc2]
    exact ⟨nilV,nilV,l2,rfl,nilSl,nilSl,rfl,fun y hy=>hs2 _ (h2.sub y hy),hm2,hm2,rfl⟩
   ·refine .skip ?_
    refine AK.then_ (hK8 _ ?_)
    refine .sr fun _ hK11=>?_
    refine .v (.loadBoxG ag24 rfl bsp rfl rfl) (.v (.fieldAddr fd24_1 rfl) (.v (.loadBox on3 rfl bsp rfl) ?_))
    refine .v (.build (parts:=[(0,.const (.int .i64 3)),(1,.tmp 28)]) (cs:=#[.int .i64 3,.int .i64 e.lt,.slice none 0 0]) rfl (by kernel_rfl)) ?_
    refine .v (.build (parts:=[(0,.tmp 26),(1,.tmp 29),(2,.const (.bool false))]) (cs:=#[.int .i64 emptyE.op,.int .i64 emptyE.lt,nilV,.int .i64 (Ex.mk 3 e.lt []).op,.int .i64 (Ex.mk 3 e.lt []).lt,nilV,.bool false]) rfl (by kernel_rfl)) ?_
    refine AK.storeBox 3 (us:=[.int .i64 emptyE.op,.int .i64 emptyE.lt,nilV,.int .i64 (Ex.mk 3 e.lt []).op,.int .i64 (Ex.mk 3 e.lt []).lt,nilV,.bool false]) (cs':=[.int .i64 emptyE.op,.int .i64 emptyE.lt,nilV,.int .i64 (Ex.mk 3 e.lt []).op,.int .i64 (Ex.mk 3 e.lt []).lt,nilV,.bool false]) rfl sz142 rfl rfl rfl rfl oneP (leb rfl) rfl trivial ?_
    refine .nt hK11 (.ret (.block_ret (.then_ret ?_)))
    refine AK.add' 0 (.deep nilV []) rfl (fun R=>RdK.nil R) (fun l2 hs2 hm2=>?_)
    refine AK.retG [.cell 4 142] rfl (.cons (.cell ag142 rfl bsp rfl rfl) (.nil)) (fun w hw=>⟨_,_,_,?_,rfl,Ret.of (hw.pick [0] (by decide) rfl rfl)⟩)
    obtain rfl:=dervE_let hd hc1
    rw [if_neg hc2]
    exact ⟨nilV,nilV,l2,rfl,nilSl,nilSl,rfl,fun y hy=>hs2 _ (h2.sub y hy),hm2,hm2,rfl⟩
  ·refine .seq fun _ hK12=>?_
   refine .sr fun _ hK13=>?_
   refine .v (.eql rfl rfl) (.as rfl (.nt hK13 ?_))
   refine AK.condD rfl (fun hc3=>?_) (fun hc3=>?_)
   ·refine .skip ?_
    refine AK.then_ (hK12 _ ?_)
    refine AK.cond_t rfl (decide_eq_true hc3) ?_
    refine .sr fun _ hK14=>?_
    refine .v (.loadBoxG ag144 rfl bsp rfl rfl) (.v (.loadBoxG ag24 rfl bsp rfl rfl) ?_)
    refine AK.callN 0 rfl co153 rfl (fun w Fs hw hh hfr hal=>s_boolean a nm e (by omega) ih w (Fs 0) B l1 (hB.later hfr hal 0) (hh.at_ 0 _ rfl) s (h2.sub _ hm) d hd) trivial rfl ?_
    rintro r A o ⟨sb,sf,l2,rfl,ssb,ssf,rfl,hs2,hmb,hmf,rfl⟩
    refine AK.storeBox 3 (us:=[.int .i64 d.1.op,.int .i64 d.1.lt,sb,.int .i64 d.2.1.op,.int .i64 d.2.1.lt,sf,.bool d.2.2]) (cs':=[.int .i64 d.1.op,.int .i64 d.1.lt,sb,.int .i64 d.2.1.op,.int .i64 d.2.1.lt,sf,.bool d.2.2]) rfl sz142 rfl rfl rfl rfl oneP (leb rfl) rfl trivial ?_
    refine .nt hK14 (.ret (.block_ret (.then_ret ?_)))
    refine AK.retG [.cell 4 142] rfl (.cons (.cell ag142 rfl bsp rfl rfl) (.nil)) (fun w hw=>⟨_,_,_,?_,rfl,Ret.of (hw.pick [0] (by decide) rfl rfl)⟩)
    exact ⟨sb,sf,l2,rfl,ssb,ssf,rfl,fun y hy=>hs2 _ (h2.sub y hy),hmb,hmf,rfl⟩
   ·refine .sr fun _ hK15=>?_
    refine .v (.eql rfl rfl) (.as rfl (.nt hK15 ?_))
    refine AK.condD rfl (fun hc4=>?_) (fun hc4=>?_)
    ·refine .skip ?_
     refine AK.then_ (hK12 _ ?_)
     refine AK.cond_t rfl (decide_eq_true hc4) ?_
     refine .sr fun _ hK16=>?_
     refine .v (.loadBoxG ag144 rfl bsp rfl rfl) (.v (.loadBoxG ag24 rfl bsp rfl rfl) ?_)
     refine AK.callN 0 rfl co153 rfl (fun w Fs hw hh hfr hal=>s_boolean a nm e (by omega) ih w (Fs 0) B l1 (hB.later hfr hal 0) (hh.at_ 0 _ rfl) s (h2.sub _ hm) d hd) trivial rfl ?_
     rintro r A o ⟨sb,sf,l2,rfl,ssb,ssf,rfl,hs2,hmb,hmf,rfl⟩
     refine AK.storeBox 3 (us:=[.int .i64 d.1.op,.int .i64 d.1.lt,sb,.int .i64 d.2.1.op,.int .i64 d.2.1.lt,sf,.bool d.2.2]) (cs':=[.int .i64 d.1.op,.int .i64 d.1.lt,sb,.int .i64 d.2.1.op,.int .i64 d.2.1.lt,sf,.bool d.2.2]) rfl sz142 rfl rfl rfl rfl oneP (leb rfl) rfl trivial ?_
     refine .nt hK16 (.ret (.block_ret (.then_ret ?_)))
     refine AK.retG [.cell 4 142] rfl (.cons (.cell ag142 rfl bsp rfl rfl) (.nil)) (fun w hw=>⟨_,_,_,?_,rfl,Ret.of (hw.pick [0] (by decide) rfl rfl)⟩)
     exact ⟨sb,sf,l2,rfl,ssb,ssf,rfl,fun y hy=>hs2 _ (h2.sub y hy),hmb,hmf,rfl⟩
    ·refine AK.region ?_
     refine .v (.eql rfl rfl) (.as rfl (.nt hK12 ?_))
     refine AK.condD rfl (fun hc5=>?_) (fun hc5=>?_)
     ·refine .sr fun _ hK17=>?_
      refine .v (.loadBoxG ag144 rfl bsp rfl rfl) (.v (.loadBoxG ag24 rfl bsp rfl rfl) ?_)
      refine AK.callN 0 rfl co153 rfl (fun w Fs hw hh hfr hal=>s_boolean a nm e (by omega) ih w (Fs 0) B l1 (hB.later hfr hal 0) (hh.at_ 0 _ rfl) s (h2.sub _ hm) d hd) trivial rfl ?_
      rintro r A o ⟨sb,sf,l2,rfl,ssb,ssf,rfl,hs2,hmb,hmf,rfl⟩
      refine AK.storeBox 3 (us:=[.int .i64 d.1.op,.int .i64 d.1.lt,sb,.int .i64 d.2.1.op,.int .i64 d.2.1.lt,sf,.bool d.2.2]) (cs':=[.int .i64 d.1.op,.int .i64 d.1.lt,sb,.int .i64 d.2.1.op,.int .i64 d.2.1.lt,sf,.bool d.2.2]) rfl sz142 rfl rfl rfl rfl oneP (leb rfl) rfl trivial ?_
      refine .nt hK17 (.ret (.block_ret (.then_ret ?_)))
      refine AK.retG [.cell 4 142] rfl (.cons (.cell ag142 rfl bsp rfl rfl) (.nil)) (fun w hw=>⟨_,_,_,?_,rfl,Ret.of (hw.pick [0] (by decide) rfl rfl)⟩)
      exact ⟨sb,sf,l2,rfl,ssb,ssf,rfl,fun y hy=>hs2 _ (h2.sub y hy),hmb,hmf,rfl⟩
     ·refine .sr fun _ hK18=>?_
      refine .v (.eql rfl rfl) (.as rfl (.nt hK18 ?_))
      refine AK.condD rfl (fun hc6=>?_) (fun hc6=>?_)
      ·obtain ⟨k0,s1,b,hk0l,hk0,hj1,hj2,rfl⟩:=dervE_star hd hc6
       have sk0:=h2.sls 0 hk0l
       refine .seq fun _ hK19=>?_
       refine AK.joinK (X:=Value × Value × List Itm × Nat) [(4,_)] (fun z=>[(7,.pointer (some ⟨z.2.2.2,0,none⟩))]) (fun z=>[forest B z.2.2.1,box bx2 144 2 [.int .i64 a,.bool nm],box bx3 24 3 [.int .i64 e.op,.int .i64 e.lt,s],box bx4 142 7 [.int .i64 0,.int .i64 0,.slice none 0 0,.int .i64 0,.int .i64 0,.slice none 0 0,.bool false],box bx5 24 3 [.int .i64 emptyE.op,.int .i64 emptyE.lt,nilV],box bx6 24 3 [.int .i64 unitE.op,.int .i64 unitE.lt,nilV],box z.2.2.2 142 7 [.int .i64 k0.1.op,.int .i64 k0.1.lt,z.1,.int .i64 k0.2.1.op,.int .i64 k0.2.1.lt,z.2.1,.bool k0.2.2]]) (fun z=>IsSl z.1∧IsSl z.2.1∧(∀ y∈l1,y∈z.2.2.1)∧Itm.deep z.1 k0.1.kids∈z.2.2.1∧Itm.deep z.2.1 k0.2.1.kids∈z.2.2.1) slr (fun _ hJ=>?_) (fun z hg=>?_)
       ·try (conv=>enter [2,2];simp only [nrm])
        refine AK.heldS [forest B l1,box bx2 144 2 [.int .i64 a,.bool nm],box bx3 24 3 [.int .i64 e.op,.int .i64 e.lt,s]] 7 (fun _ hw=>by first | exact hw.pick [0,1,2] (by decide) rfl rfl | (have h:=HW.forestLe 0 rfl hs2 (hw.pick [0,1,2] (by decide) rfl rfl);exact h)) mixed ?_
        refine HeldK.firstS (fun _ hw=>by first | exact hw.pick [0,1,2] (by decide) rfl rfl | (have h:=HW.forestLe 0 rfl hs2 (hw.pick [0,1,2] (by decide) rfl rfl);exact h)) 0 (fuel:=7) (listed':=(lb 8 1)) _ rfl krf krf rfl (Yl.loadBoxG ag144 rfl bsp rfl rfl) trivial rfl ?_
        refine HeldK.firstS (fun _ hw=>by first | exact hw.pick [0,1,2] (by decide) rfl rfl | (have h:=HW.forestLe 0 rfl hs2 (hw.pick [0,1,2] (by decide) rfl rfl);exact h)) 1 (fuel:=6) (listed':=(lb 8 3)) _ rfl krf krf rfl (Yl.fieldAddr fd24_2 rfl) trivial rfl ?_
        refine HeldK.firstS (fun _ hw=>by first | exact hw.pick [0,1,2] (by decide) rfl rfl | (have h:=HW.forestLe 0 rfl hs2 (hw.pick [0,1,2] (by decide) rfl rfl);exact h)) 2 (fuel:=5) (listed':=(lb 8 7)) _ rfl krf krf rfl (Yl.loadBox on22 rfl bsp rfl) trivial rfl ?_
        refine HeldK.firstS (fun _ hw=>by first | exact hw.pick [0,1,2] (by decide) rfl rfl | (have h:=HW.forestLe 0 rfl hs2 (hw.pick [0,1,2] (by decide) rfl rfl);exact h)) 3 (fuel:=4) (listed':=(lb 8 15)) _ rfl krf krf rfl (Yl.idxN (k:=0) sl22 rfl rfl (by first | exact rdp | exact RdS.tree hB 0 rfl h2.rw) (by decide) (by omega)) trivial rfl ?_
        refine HeldK.firstS (fun _ hw=>by first | exact hw.pick [0,1,2] (by decide) rfl rfl | (have h:=HW.forestLe 0 rfl hs2 (hw.pick [0,1,2] (by decide) rfl rfl);exact h)) 4 (fuel:=3) (listed':=(lb 8 31)) _ rfl krf krf rfl (Yl.loadE ag24 rfl (by first | exact rdp | exact RdS.tree hB 0 rfl h2.rw) h2.len rfl (by omega)) trivial rfl ?_
        refine HeldK.two 5 6 (fuel:=2) (listed1:=(lb 8 63)) (listed2:=(lb 8 95)) krf rfl rfl krf krf ?_ ?_
        ·refine AK.callN 0 rfl co103 rfl (fun w Fs hw hh hfr hal=>ih 0 hk0l w (Fs 0) B l1 (hB.later hfr hal 0) (hh.at_ 0 _ rfl) _ (h2.kid 0 hk0l) k0 hk0) trivial rfl ?_
         rintro r A o ⟨sb0,sf0,l2,rfl,ssb0,ssf0,rfl,hs2,hmb0,hmf0,rfl⟩
         refine .nil ?_
         try (conv=>enter [2,2];simp only [nrm])
         refine HeldK.backS (fun _ hw=>by first | exact hw.pick [0,1,2] (by decide) rfl rfl | (have h:=HW.forestLe 0 rfl hs2 (hw.pick [0,1,2] (by decide) rfl rfl);exact h)) ?_
         refine HeldK.one 6 (fuel:=1) (listed':=(lb 8 127)) krf rfl krf ?_
         refine AK.alloc el142 rfl rfl trivial rfl (fun bx7=>?_)
         refine .nil ?_
         try (conv=>enter [2,2];simp only [nrm])
         refine HeldK.backS (fun _ hw=>by first | exact hw.pick [0,1,2] (by decide) rfl rfl | (have h:=HW.forestLe 0 rfl hs2 (hw.pick [0,1,2] (by decide) rfl rfl);exact h)) ?_
         refine HeldK.one 7 (fuel:=0) (listed':=(lb 8 255)) krf rfl krf ?_
         refine AK.storeBox 6 (us:=[.int .i64 k0.1.op,.int .i64 k0.1.lt,sb0,.int .i64 k0.2.1.op,.int .i64 k0.2.1.lt,sf0,.bool k0.2.2]) (cs':=[.int .i64 k0.1.op,.int .i64 k0.1.lt,sb0,.int .i64 k0.2.1.op,.int .i64 k0.2.1.lt,sf0,.bool k0.2.2]) rfl sz142 rfl rfl rfl rfl oneP (leb rfl) rfl trivial ?_
         refine .nil ?_
         try (conv=>enter [2,2];simp only [nrm])
         refine HeldK.backN 8 krf rfl krf ?_
         refine .nil ?_
         refine AK.fromQn ?_
         exact hJ _ _ ((sb0,sf0,l2,bx7)) ⟨ssb0,ssf0,hs2,hmb0,hmf0⟩ (slr) (fun w hw=>by first | exact hw.pickLe [0,1,2,3,4,5,6] (by decide) pkl)
        ·refine AK.alloc el142 rfl rfl trivial rfl (fun bx7=>?_)
         refine .nil ?_
         try (conv=>enter [2,2];simp only [nrm])
         refine HeldK.backS (fun _ hw=>by first | exact hw.pick [0,1,2] (by decide) rfl rfl | (have h:=HW.forestLe 0 rfl hs2 (hw.pick [0,1,2] (by decide) rfl rfl);exact h)) ?_
         refine HeldK.one 5 (fuel:=1) (listed':=(lb 8 127)) krf rfl krf ?_
         refine AK.callN 0 rfl co103 rfl (fun w Fs hw hh hfr hal=>ih 0 hk0l w (Fs 0) B l1 (hB.later hfr hal 0) (hh.at_ 0 _ rfl) _ (h2.kid 0 hk0l) k0 hk0) trivial rfl ?_
         rintro r A o ⟨sb0,sf0,l2,rfl,ssb0,ssf0,rfl,hs2,hmb0,hmf0,rfl⟩
         refine .nil ?_
         try (conv=>enter [2,2];simp only [nrm])
         refine HeldK.backS (fun _ hw=>by first | exact hw.pick [0,1,2] (by decide) rfl rfl | (have h:=HW.forestLe 0 rfl hs2 (hw.pick [0,1,2] (by decide) rfl rfl);exact h)) ?_
         refine HeldK.one 7 (fuel:=0) (listed':=(lb 8 255)) krf rfl krf ?_
         refine AK.storeBox 6 (us:=[.int .i64 k0.1.op,.int .i64 k0.1.lt,sb0,.int .i64 k0.2.1.op,.int .i64 k0.2.1.lt,sf0,.bool k0.2.2]) (cs':=[.int .i64 k0.1.op,.int .i64 k0.1.lt,sb0,.int .i64 k0.2.1.op,.int .i64 k0.2.1.lt,sf0,.bool k0.2.2]) rfl sz142 rfl rfl rfl rfl oneP (leb rfl) rfl trivial ?_
         refine .nil ?_
         try (conv=>enter [2,2];simp only [nrm])
         refine HeldK.backN 8 krf rfl krf ?_
         refine .nil ?_
         refine AK.fromQn ?_
         exact hJ _ _ ((sb0,sf0,l2,bx7)) ⟨ssb0,ssf0,hs2,hmb0,hmf0⟩ (slr) (fun w hw=>by first | exact hw.pickLe [0,1,2,3,4,5,6] (by decide) pkl)
       ·have sz1:=hg.1
        have sz2:=hg.2.1
        refine AK.then_ (hK19 _ ?_)
        refine .sr fun _ hK20=>?_
        refine .v (.fieldAddr fd142_1 rfl) (.v (.loadBoxG ag24 rfl bsp rfl rfl) ?_)
        refine AK.lit (xs:=[.tmp 47]) sl22 el24 rfl rfl rfl (by simp [Value.cells]) (by decide) (by decide) trivial rfl (fun lv=>?_)
        refine AK.close' 0 7 [k0.2.1] [z.2.1] (by decide) rfl rfl rfl rfl rfl (one_deep hg.2.2.2.2) (fun l3 hs3 hm3 hr3=>?_)
        refine AK.callN 0 rfl co150 rfl (fun w Fs hw hh hfr hal=>s_join w (Fs 0) B l3 (hB.later hfr hal 0) (hh.at_ 0 _ rfl) 7 _ _ hm3 s1 hj1) trivial rfl ?_
        rintro r A o ⟨sf,l4,rfl,ssf,rfl,hs4,hm4,rfl⟩
        refine AK.alloc el24 rfl rfl trivial rfl (fun bx8=>?_)
        refine AK.storeBox 8 (us:=[.int .i64 s1.op,.int .i64 s1.lt,sf]) (cs':=[.int .i64 s1.op,.int .i64 s1.lt,sf]) rfl sz24 rfl rfl rfl rfl oneP (leb rfl) rfl trivial ?_
        refine .nt hK20 ?_
        refine .seq fun _ hK21=>?_
        try (conv=>enter [2,2];simp only [nrm])
        refine AK.heldS _ 7 (fun _ hw=>hw.pick [6,8] (by decide) rfl rfl) mixed ?_
        refine HeldK.firstS (fun _ hw=>hw.pick [6,8] (by decide) rfl rfl) 0 (fuel:=7) (listed':=(lb 8 1)) _ rfl krf krf rfl (Yl.fieldAddr fd142_0 rfl) trivial rfl ?_
        refine HeldK.firstS (fun _ hw=>hw.pick [6,8] (by decide) rfl rfl) 1 (fuel:=6) (listed':=(lb 8 3)) _ rfl krf krf rfl (Yl.loadBoxG ag24 rfl bsp rfl rfl) trivial rfl ?_
        refine HeldK.firstS (fun _ hw=>hw.pick [6,8] (by decide) rfl rfl) 2 (fuel:=5) (listed':=(lb 8 7)) _ rfl krf krf rfl (Yl.loadBoxG ag24 rfl bsp rfl rfl) trivial rfl ?_
        refine HeldK.firstS (fun _ hw=>hw.pick [6,8] (by decide) rfl rfl) 5 (fuel:=4) (listed':=(lb 8 39)) _ rfl krf krf rfl (Yl.loadBoxG ag24 rfl bsp rfl rfl) trivial rfl ?_
        refine HeldK.one 3 (fuel:=3) (listed':=(lb 8 47)) krf rfl krf ?_
        refine AK.lit (xs:=[.tmp 51,.tmp 52]) sl22 el24 rfl rfl rfl (by simp [Value.cells]) (by decide) (by decide) trivial rfl (fun lw=>?_)
        refine .nil ?_
        try (conv=>enter [2,2];simp only [nrm])
        refine HeldK.backS (fun _ hw=>hw.pick [6,8] (by decide) rfl rfl) ?_
        refine HeldK.one 4 (fuel:=2) (listed':=(lb 8 63)) krf rfl krf ?_
        refine AK.close' 0 9 [k0.1,s1] [z.1,sf] (by decide) rfl rfl rfl rfl rfl (two_deep (hs4 _ (hs3 _ hg.2.2.2.1)) hm4) (fun l5 hs5 hm5 hr5=>?_)
        refine AK.callN 0 rfl co150 rfl (fun w Fs hw hh hfr hal=>s_join w (Fs 0) B l5 (hB.later hfr hal 0) (hh.at_ 0 _ rfl) 5 _ _ hm5 b hj2) trivial rfl ?_
        rintro r A o ⟨sb,l6,rfl,ssb,rfl,hs6,hm6,rfl⟩
        refine .nil ?_
        try (conv=>enter [2,2];simp only [nrm])
        refine HeldK.backS (fun _ hw=>hw.pick [6,8] (by decide) rfl rfl) ?_
        refine HeldK.firstS (fun _ hw=>hw.pick [6,8] (by decide) rfl rfl) 6 (fuel:=1) (listed':=(lb 8 127)) _ rfl krf krf rfl (Yl.build (parts:=[(0,.tmp 54),(1,.tmp 55),(2,.const (.bool true))]) (cs:=#[.int .i64 b.op,.int .i64 b.lt,sb,.int .i64 s1.op,.int .i64 s1.lt,sf,.bool true]) rfl (by obtain ⟨_,_,_,rfl⟩:=ssb;obtain ⟨_,_,_,rfl⟩:=ssf;kernel_rfl)) trivial rfl ?_
        refine HeldK.one 7 (fuel:=0) (listed':=(lb 8 255)) krf rfl krf ?_
        refine AK.storeBox 3 (us:=[.int .i64 b.op,.int .i64 b.lt,sb,.int .i64 s1.op,.int .i64 s1.lt,sf,.bool true]) (cs':=[.int .i64 b.op,.int .i64 b.lt,sb,.int .i64 s1.op,.int .i64 s1.lt,sf,.bool true]) rfl sz142 rfl rfl rfl rfl oneP (leb rfl) rfl trivial ?_
        refine .nil ?_
        try (conv=>enter [2,2];simp only [nrm])
        refine HeldK.backN 8 krf rfl krf ?_
        refine .nil ?_
        refine AK.fromQn ?_
        refine AK.then_ (hK21 _ ?_)
        refine .ret (.block_ret (.then_ret ?_))
        refine AK.retG [.cell 4 142] rfl (.cons (.cell ag142 rfl bsp rfl rfl) (.nil)) (fun w hw=>⟨_,_,_,?_,rfl,Ret.of (hw.pick [0] (by decide) rfl rfl)⟩)
        exact ⟨sb,sf,l6,rfl,ssb,ssf,rfl,fun y hy=>hs6 _ (hs5 _ (hs4 _ (hs3 _ (hg.2.2.1 _ (h2.sub y hy))))),hm6,hs6 _ (hs5 _ hm4),rfl⟩
      ·refine .sr fun _ hK22=>?_
       refine .v (.eql rfl rfl) (.as rfl (.nt hK22 ?_))
       refine AK.condD rfl (fun hc7=>?_) (fun hc7=>?_)
       ·refine .sr fun _ hK23=>?_
        refine .v (.loadBoxG ag144 rfl bsp rfl rfl) (.v (.loadBoxG ag24 rfl bsp rfl rfl) ?_)
        refine AK.callN 0 rfl co154 rfl (fun w Fs hw hh hfr hal=>s_dconcat a nm e (hc7) ih w (Fs 0) B l1 (hB.later hfr hal 0) (hh.at_ 0 _ rfl) s (h2.sub _ hm) d hd) trivial rfl ?_
        rintro r A o ⟨sb,sf,l2,rfl,ssb,ssf,rfl,hs2,hmb,hmf,rfl⟩
        refine AK.storeBox 3 (us:=[.int .i64 d.1.op,.int .i64 d.1.lt,sb,.int .i64 d.2.1.op,.int .i64 d.2.1.lt,sf,.bool d.2.2]) (cs':=[.int .i64 d.1.op,.int .i64 d.1.lt,sb,.int .i64 d.2.1.op,.int .i64 d.2.1.lt,sf,.bool d.2.2]) rfl sz142 rfl rfl rfl rfl oneP (leb rfl) rfl trivial ?_
        refine .nt hK23 (.ret (.block_ret (.then_ret ?_)))
        refine AK.retG [.cell 4 142] rfl (.cons (.cell ag142 rfl bsp rfl rfl) (.nil)) (fun w hw=>⟨_,_,_,?_,rfl,Ret.of (hw.pick [0] (by decide) rfl rfl)⟩)
        exact ⟨sb,sf,l2,rfl,ssb,ssf,rfl,fun y hy=>hs2 _ (h2.sub y hy),hmb,hmf,rfl⟩
       ·refine .skip (.block_normal ?_)
        refine AK.then_ (hK3 _ ?_)
        refine .sr fun _ hK24=>?_
        refine .v (.loadBoxG ag24 rfl bsp rfl rfl) (.v (.loadBoxG ag24 rfl bsp rfl rfl) ?_)
        refine .v (.build (parts:=[(0,.tmp 62),(1,.tmp 63),(2,.const (.bool false))]) (cs:=#[.int .i64 emptyE.op,.int .i64 emptyE.lt,nilV,.int .i64 emptyE.op,.int .i64 emptyE.lt,nilV,.bool false]) rfl (by kernel_rfl)) ?_
        refine AK.storeBox 3 (us:=[.int .i64 emptyE.op,.int .i64 emptyE.lt,nilV,.int .i64 emptyE.op,.int .i64 emptyE.lt,nilV,.bool false]) (cs':=[.int .i64 emptyE.op,.int .i64 emptyE.lt,nilV,.int .i64 emptyE.op,.int .i64 emptyE.lt,nilV,.bool false]) rfl sz142 rfl rfl rfl rfl oneP (leb rfl) rfl trivial ?_
        refine .nt hK24 (.ret ?_)
        refine AK.add' 0 (.deep nilV []) rfl (fun R=>RdK.nil R) (fun l2 hs2 hm2=>?_)
        refine AK.retG [.cell 4 142] rfl (.cons (.cell ag142 rfl bsp rfl rfl) (.nil)) (fun w hw=>⟨_,_,_,?_,rfl,Ret.of (hw.pick [0] (by decide) rfl rfl)⟩)
        obtain rfl:=dervE_rest hd (by omega) (by omega) (by omega) (by omega) (by omega) (by omega) (by omega)
        exact ⟨nilV,nilV,l2,rfl,nilSl,nilSl,rfl,fun y hy=>hs2 _ (h2.sub y hy),hm2,hm2,rfl⟩
theorem s_der (a:Int) (nm:Bool) (e:Ex):DerS a nm e:=Ex.ind (P:=DerS a nm) (fun e ih w F B l hB hA s hm d hd=>s_der_step a nm e ih w F B l hB hA s hm d hd) e
set_option maxHeartbeats 800000 in
theorem s_limited (w:World) (d:Dv) (sb sf:Value) (ssb:IsSl sb) (h:RdK (cellR (fun _=>False) w) sb d.1.kids):CallS Tryz.prog 102 [.agg #[.int .i64 d.1.op,.int .i64 d.1.lt,sb,.int .i64 d.2.1.op,.int .i64 d.2.1.lt,sf,.bool d.2.2]] w (fun r o=>r = .tuple #[.agg #[.int .i64 (limE d).1.op,.int .i64 (limE d).1.lt,limS d sb],.int .i64 (limE d).2]∧o=[]):=by
 refine spec_of Tryz.func102 rfl (leb rfl) ?_
 refine .sr fun _ hK1=>?_
 refine AK.box_ (E:=142) (cs:=[.int .i64 d.1.op,.int .i64 d.1.lt,sb,.int .i64 d.2.1.op,.int .i64 d.2.1.lt,sf,.bool d.2.2]) rfl rfl rfl trivial rfl (fun bx1=>?_)
 refine AK.alloc el24 rfl rfl trivial rfl (fun bx2=>?_)
 refine .as rfl (.nt hK1 ?_)
 refine .seq fun _ hK2=>?_
 refine .sr fun _ hK3=>?_
 refine .v (.fieldAddr fd142_0 rfl) (.v (.loadBoxG ag24 rfl bsp rfl rfl) ?_)
 refine AK.call co43 rfl (fun w hw=>s_valid w d.1 sb 6 (h.at hw)) trivial rfl ?_
 rintro r o ⟨rfl,rfl⟩
 refine .v (.neq rfl rfl) (.nt hK3 ?_)
 refine AK.condNe rfl (fun hc0=>?_) (fun hc0=>?_)
 ·refine .sr fun _ hK4=>?_
  refine .v (.build (parts:=[]) (cs:=#[.int .i64 0,.int .i64 0,.slice none 0 0]) rfl (by kernel_rfl)) ?_
  refine AK.storeBox 1 (us:=[.int .i64 e0.op,.int .i64 e0.lt,nilV]) (cs':=[.int .i64 e0.op,.int .i64 e0.lt,nilV]) rfl sz24 rfl rfl rfl rfl oneP (leb rfl) rfl trivial ?_
  refine .as rfl (.nt hK4 (.ret (.then_ret ?_)))
  refine AK.retG [.cell 2 24,.tmp 3] rfl (.cons (.cell ag24 rfl bsp rfl rfl) (.cons (.tmp rfl) (.nil))) (fun w hw=>⟨_,_,?_,rfl,Ret.of (hw.pick [] (by decide) rfl rfl)⟩)
  rw [show limE d=(e0,3) from if_neg hc0,show limS d sb=nilV from if_neg hc0]
  exact ⟨rfl,rfl⟩
 ·refine .skip ?_
  refine AK.then_ (hK2 _ ?_)
  refine .sr fun _ hK5=>?_
  refine .v (.fieldAddr fd142_0 rfl) (.v (.loadBoxG ag24 rfl bsp rfl rfl) ?_)
  refine AK.storeBox 1 (us:=[.int .i64 d.1.op,.int .i64 d.1.lt,sb]) (cs':=[.int .i64 d.1.op,.int .i64 d.1.lt,sb]) rfl sz24 rfl rfl rfl rfl oneP (leb rfl) rfl trivial ?_
  refine .as rfl (.nt hK5 (.ret ?_))
  refine AK.retG [.cell 2 24,.tmp 3] rfl (.cons (.cell ag24 rfl bsp rfl rfl) (.cons (.tmp rfl) (.nil))) (fun w hw=>⟨_,_,?_,rfl,Ret.of (hw.pick [] (by decide) rfl rfl)⟩)
  rw [show limE d=(d.1,0) from if_pos (by omega),show limS d sb=sb from if_pos (by omega)]
  exact ⟨rfl,rfl⟩
set_option maxHeartbeats 800000 in
theorem s_byletter (a:Int) (e:Ex) (w:World) (F:Nat→Prop) (B:Bs) (l:List Itm) (hB:BsOk B w F) (hA:(forest B l).holds w F) (s:Value) (hm:Itm.deep s e.kids∈l) (p:Ex × Int) (hp:letE e a=some p):CallM Tryz.prog 49 [.agg #[.int .i64 e.op,.int .i64 e.lt,s],.int .i64 a] w F (fun r A o=>∃ sp l',r = .tuple #[.agg #[.int .i64 p.1.op,.int .i64 p.1.lt,sp],.int .i64 p.2]∧IsSl sp∧A=forest B l'∧(∀ x∈l,x∈l')∧Itm.deep sp p.1.kids∈l'∧o=[]):=by
 refine specM_of Tryz.func49 rfl (leb rfl) hA ?_
 obtain ⟨d,hd,rfl⟩:=letE_some hp
 refine .sr fun _ hK1=>?_
 refine AK.box_ (E:=24) (cs:=[.int .i64 e.op,.int .i64 e.lt,s]) rfl rfl rfl trivial rfl (fun bx2=>?_)
 refine AK.alloc el24 rfl rfl trivial rfl (fun bx4=>?_)
 refine .as rfl (.nt hK1 ?_)
 refine .sr fun _ hK2=>?_
 refine .mv rfl ?_
 refine .v (.build (parts:=[(0,.tmp 6),(1,.const (.bool true))]) (cs:=#[.int .i64 a,.bool true]) rfl (by kernel_rfl)) ?_
 refine .v (.loadBoxG ag24 rfl bsp rfl rfl) ?_
 refine AK.callN 0 rfl co103 rfl (fun w Fs hw hh hfr hal=>s_der a true e w (Fs 0) B l (hB.later hfr hal 0) (hh.at_ 0 _ rfl) s hm d hd) trivial rfl ?_
 rintro r A o ⟨sb,sf,l2,rfl,ssb,ssf,rfl,hs2,hmb,hmf,rfl⟩
 refine AK.call co102 rfl (fun w hw=>s_limited w d sb sf ssb (hw.kidR hB 0 rfl hmb)) trivial rfl ?_
 rintro r o ⟨rfl,rfl⟩
 have ssl:IsSl (limS d sb):=by unfold limS;split;exact ssb;exact nilSl
 refine .v (.extract rfl rfl) (.v (.extract rfl rfl) ?_)
 refine AK.storeBox 2 (us:=[.int .i64 (limE d).1.op,.int .i64 (limE d).1.lt,limS d sb]) (cs':=[.int .i64 (limE d).1.op,.int .i64 (limE d).1.lt,limS d sb]) rfl sz24 rfl rfl rfl rfl oneP (leb rfl) rfl trivial ?_
 refine .as rfl (.nt hK2 (.ret ?_))
 refine AK.add' 0 (.deep nilV []) rfl (fun R=>RdK.nil R) (fun l3 hs3 hm3=>?_)
 refine AK.retG [.cell 4 24,.tmp 5] rfl (.cons (.cell ag24 rfl bsp rfl rfl) (.cons (.tmp rfl) (.nil))) (fun w hw=>⟨_,_,_,?_,rfl,Ret.of (hw.pick [0] (by decide) rfl rfl)⟩)
 refine ⟨limS d sb,l3,rfl,ssl,rfl,fun x hx=>hs3 _ (hs2 x hx),?_,rfl⟩
 unfold limE limS
 split
 ·exact hs3 _ hmb
 ·exact hm3
end Go.Proofs.YtbibnpdnmmgacaaGreatDoor
namespace Go.Sx
open Go.RowKit
section
variable {C : Cx} {sl : List (Nat × Value)} {own : List Asn} {dst : Option Nat} {ty : TypeId} {pos : String} {aft : Array Edge} {g : Option (Nat × Bool)} {x y : Operand} {t t' : TypeId}
theorem Yl.eqlNilNil (ht:(C.P.underlying t).map (fun d=>match d with | .pointer e=>(C.P.info? e).isSome | _=>false)=some true) (hx:opv ⟨sl,own⟩ x=some (.pointer none)) (hy:opv ⟨sl,own⟩ y=some (.pointer none)):Yl C ⟨sl,own⟩ ⟨dst,.binOp .eql t x y t',ty,pos,aft,g⟩ (.bool true):=
 fun a w hs=>by
  obtain ⟨d,hd,h2⟩:=Option.map_eq_some_iff.1 ht
  cases d <;> simp at h2
  rename_i te
  obtain ⟨j,hj⟩:=Option.isSome_iff_exists.1 h2
  have h:∀ d:Nat,(Op.equalIn (d+1) t (.pointer none) (.pointer none)).run C.P w = .ok true w:=fun d=>by simp [Op.equalIn,run_underlying hd,sizeOf,typeInfo,hj]
  have h9:(binOp .eql t (.pointer none) (.pointer none)).run C.P w = .ok (.bool true) w:=by
   simp only [binOp]
   simp [Op.equal,Op.maxDepth,h 9999]
  simp only [execOp,opv_eval hs hx,opv_eval hs hy,eqGuard_at_pointer,Sem.run_bind,Sem.run_pure,h9,Result.andThen_ok]
theorem Yl.eqlSomeNil {p:Addr} (ht:(C.P.underlying t).map (fun d=>match d with | .pointer e=>(C.P.info? e).isSome | _=>false)=some true) (hx:opv ⟨sl,own⟩ x=some (.pointer (some p))) (hy:opv ⟨sl,own⟩ y=some (.pointer none)):Yl C ⟨sl,own⟩ ⟨dst,.binOp .eql t x y t',ty,pos,aft,g⟩ (.bool false):=
 fun a w hs=>by
  obtain ⟨d,hd,h2⟩:=Option.map_eq_some_iff.1 ht
  cases d <;> simp at h2
  rename_i te
  obtain ⟨j,hj⟩:=Option.isSome_iff_exists.1 h2
  have h:∀ d:Nat,(Op.equalIn (d+1) t (.pointer (some p)) (.pointer none)).run C.P w = .ok false w:=fun d=>by simp [Op.equalIn,run_underlying hd,sizeOf,typeInfo,hj]
  have h9:(binOp .eql t (.pointer (some p)) (.pointer none)).run C.P w = .ok (.bool false) w:=by
   simp only [binOp]
   simp [Op.equal,Op.maxDepth,h 9999]
  simp only [execOp,opv_eval hs hx,opv_eval hs hy,eqGuard_at_pointer,Sem.run_bind,Sem.run_pure,h9,Result.andThen_ok]
theorem Yl.neqPtrSame {p:Addr} {te:TypeId} (ht:C.P.underlying t=some (.pointer te)) (h2:(C.P.info? te).isSome=true) (hx:opv ⟨sl,own⟩ x=some (.pointer (some p))) (hy:opv ⟨sl,own⟩ y=some (.pointer (some p))):Yl C ⟨sl,own⟩ ⟨dst,.binOp .neq t x y t',ty,pos,aft,g⟩ (.bool false):=
 fun a w hs=>by
  obtain ⟨j,hj⟩:=Option.isSome_iff_exists.1 h2
  have:=Lib.run_neq_ptr_same (P:=C.P) w p ht hj
  simp only [execOp,opv_eval hs hx,opv_eval hs hy,eqGuard_at_pointer,Sem.run_bind,this,Result.andThen_ok,Sem.run_pure]
theorem BoxS.shape {b:Nat} {cs:List Value} (h:BoxS C own b cs) {w:World} (hw:HW C own w):∃ E,w.shape? b=some (E,cs.length):=by
 obtain ⟨E,h⟩:=h w hw
 exact ⟨E,by simp [World.shape?,h]⟩
theorem Yl.toUnsafe {s d te:TypeId} {b off:Nat} {cs:List Value} (hs:C.P.underlying s=some (.pointer te)) (hd:C.P.underlying d=some .unsafePointer) (h2:(C.P.info? te).map (fun j=>decide (j.size=0))=some false) (hx:opv ⟨sl,own⟩ x=some (.pointer (some ⟨b,off,none⟩))) (hb:BoxS C own b cs) (ho:off<cs.length) :
  Yl C ⟨sl,own⟩ ⟨dst,.convert s d x,ty,pos,aft,g⟩ (.pointer (some ⟨b,off,none⟩)):=
 fun a w hsim=>by
  obtain ⟨j,hj,hz⟩:=Option.map_eq_some_iff.1 h2
  obtain ⟨E,hsh⟩:=hb.shape hsim.world
  have:=Lib.run_to_unsafe (P:=C.P) w (j:=j) ⟨b,off,none⟩ hs hd hj (by simpa using hz) hsh ho
  simp only [execOp,opv_eval hsim hx,Sem.run_bind,this,Result.andThen_ok,Sem.run_pure]
theorem Yl.fromUnsafe {s d u E sz:Nat} {b off:Nat} {cs:List Value} (i:Nat) (hi:own[i]? = some (box b E sz cs)) (hs:C.P.underlying s=some .unsafePointer) (hd:C.P.underlying d=some (.pointer u)) (h2:(C.P.info? u).isSome=true) (hl:liesAt C.P C.P.depth E (cs.length / C.P.cellsOf E) off u 1=true) (hx:opv ⟨sl,own⟩ x=some (.pointer (some ⟨b,off,none⟩))) :
  Yl C ⟨sl,own⟩ ⟨dst,.convert s d x,ty,pos,aft,g⟩ (.pointer (some ⟨b,off,none⟩)):=
 fun a w hsim=>by
  obtain ⟨j,hj⟩:=Option.isSome_iff_exists.1 h2
  obtain ⟨hf,Fs,hh,hal⟩:=hsim.world
  have hb:=(hh.at_ i _ hi).1.1
  have hsh:w.shape? (⟨b,off,none⟩:Addr).block=some (E,cs.length):=by simp [World.shape?,hb]
  have:=Lib.run_from_unsafe (P:=C.P) w (j:=j) ⟨b,off,none⟩ hs hd hj hsh hl
  simp only [execOp,opv_eval hsim hx,Sem.run_bind,this,Result.andThen_ok,Sem.run_pure]
def NoEsc (P:Program) (f:FuncId):Prop:=∃ fn,P.funcs[f]? = some fn∧(fn.name == "runtime.NumGoroutine")=false∧fn.body.isNone=true∧(Extern.findNext fn).isNone=true∧Extern.find fn=some Extern.AbiNoEscape.same
theorem Yl.noEsc {f:FuncId} {tys:Array TypeId} {v:Value} (hf:NoEsc C.P f) (hx:opv ⟨sl,own⟩ x=some v):Yl C ⟨sl,own⟩ ⟨dst,.call ⟨.value (.func f),#[x],tys⟩,ty,pos,aft,g⟩ v:=
 fun a w hs=>by
  obtain ⟨fn,h1,h2,h3,h4,h5⟩:=hf
  have hr:=run_callFunc_extern (P:=C.P) h1 h2 h3 (by simpa using h4) h5 #[v] w
  have he:(Extern.AbiNoEscape.same #[v]).run C.P w = .ok v w:=Lib.run_noEscape w v
  rw [he] at hr
  have hx':=opv_eval hs hx
  simp only [Result.andThen_ok] at hr
  have e0:a.eval (.func f) = .func (.func f) #[] #[]:=rfl
  simp [execOp,resolve,e0,Deferred.ofValue,invoke,hx',hr]
end
section
variable {C : Cx} {sl : List (Nat × Value)} {own : List Asn} {ops : Array Oper} {Q : Exit → Act → World → Prop} {ty : TypeId} {pos : String} {aft : Array Edge} {g : Option (Nat × Bool)} {rest : List Oper}
theorem strCells_sv (l:List UInt8):Lib.strCells ⟨l.toArray⟩ = l.map byv:=by simp [Lib.strCells,byv]
theorem run_append_str_at {P:Program} (w:World) (t u ty e:TypeId) (i:TypeInfo) (ht:P.underlying t=some (.slice e)) (hu:P.underlying u=some .string) (hi:P.info? e=some i) (hz:i.zero=some (.int .u8 0)) (hsize:i.size=1) (hby:i.bytes=1)
  (v:Value) (n:Nat) (xs:List Value) (hown:w.ownsRow 0 e 1 v n xs) (s:ByteArray) (hb:n+s.size≤140737488355328) :
  ∃ v' w',(Builtin.append_ #[t,u] ty #[v,.string s]).run P w = .ok v' w'∧w'.ownsRow 0 e 1 v' (n+s.size) (xs++Lib.strCells s)∧w.grownBy w' v.ownBlock∧(∀ b,v'.ownBlock=some b→v.ownBlock=some b∨w.heap.size≤b):=by
 have h63:n+s.size≤maxLen:=by simp only [maxLen];omega
 have hxl:xs.length=n:=by simpa using hown.1
 have hlen:(xs++Lib.strCells s).length=(n+s.size) * 1:=by rw [List.length_append,hxl,Lib.strCells_length,Nat.mul_one]
 rcases hown.2 with ⟨rfl,rfl⟩ | ⟨gb,cap,cur,rfl,_,hg,hnc,hcm,hcs,htake⟩
 ·obtain ⟨v',w',e1,e2,e3,_⟩:=Lib.run_append_own_string (P:=P) w w.heap.size t u ty e i ht hu hi hz hsize hby _ 0 xs (ownsRow_base hown (by simp [Value.ownBlock])) s h63 hb (Nat.le_refl _)
  exact ⟨v',w',e1,ownsRow_base e2 (fun b _=>Nat.zero_le _),e3,fun b hb=>.inr (e2.lt b hb).1⟩
 ·by_cases hroom:n+s.size≤cap
  ·have hcs':cur.size=cap:=by simpa using hcs
   have hr:=Lib.run_append_room_string (P:=P) w t u ty e i ht hu hi hsize gb n cap cur hg s hroom (by omega)
   refine ⟨_,_,hr,⟨hlen,.inr ⟨gb,cap,_,rfl,Nat.zero_le _,setRow_heap w gb cur _ e _ hg,hroom,hcm,?_,?_⟩⟩,⟨rfl,rfl,rfl,by simp,fun k _ hk=>setRow_other w gb k _ (fun e=>hk (by simp [Value.ownBlock,e]))⟩,fun b hb=>.inl hb⟩
   ·simp only [List.size_toArray,List.length_append,List.length_take,List.length_drop,Array.length_toList,Lib.strCells_length]
    omega
   ·have ht':cur.toList.take n=xs:=by simpa using htake
    rw [ht',← hlen]
    exact List.take_left
  ·have holds:∀ j u,xs[j]? = some u→w.cell? ((⟨gb,0,none⟩:Addr).add j)=some u:=hown.cells (g:=gb) rfl
   have hr:=Lib.run_append_grow_string (P:=P) w t u ty e i (.int .u8 0) ht hu hi hz ⟨gb,0,none⟩ n cap xs (by rw [hsize];simpa using hxl) holds s (by omega) (by omega) (by rw [hby];exact growslice_fits (by omega) (by omega))
   have hge:=grownCap_ge w (n+s.size) cap e
   have hcm':grownCap w (n+s.size) cap e≤maxLen:=grownCap_le_maxLen w (n+s.size) cap e h63
   refine ⟨_,_,hr,⟨hlen,.inr ⟨w.heap.size,_,_,rfl,Nat.zero_le _,heap_alloc_new w.drew _,hge,hcm',?_,?_⟩⟩,⟨rfl,rfl,rfl,by simp,fun k hk _=>Below.heap_alloc w.drew _ k hk⟩,fun b hb=>.inr (by simp [Value.ownBlock] at hb;omega)⟩
   ·have hz1:(Value.int IntKind.u8 0).cells.size=1:=rfl
    simp only [Array.size_append,List.size_toArray,size_zeroCells,hz1,hxl,Lib.strCells_length]
    omega
   ·simp only [Array.toList_append,List.append_assoc]
    rw [← List.append_assoc,← hlen]
    exact List.take_left
theorem AK.appendStr (i:Nat) {d:Nat} {s x:Operand} {t u E:TypeId} {v:Value} {n:Nat} {cs:List Value} {l:List UInt8} (hi:own[i]? = some (row v E 1 n cs)) (ht:SlT C.P t E 1) (hE:ElT C.P E (.int .u8 0) 1 1) (hu:C.P.underlying u=some .string)
  (hx:opv ⟨sl,own⟩ s=some v) (hy:opv ⟨sl,own⟩ x=some (sv l)) (hb:n+l.length≤140737488355328) (hg:Grd ops sl g) (hd:Nat.blt d C.N=true)
  (h:∀ v',AK C ⟨(d,v') :: sl,own.set i (row v' E 1 (n+l.length) (cs++l.map byv))⟩ (wpList C.P ops Q rest)) :
  AK C ⟨sl,own⟩ (wpList C.P ops Q (⟨some d,.call ⟨.builtin .append,#[s,x],#[t,u]⟩,ty,pos,aft,g⟩ :: rest)):=by
 intro a w hs
 refine wpList_step fun K hK=>?_
 rw [if_pos (wanted_of_Grd hs hg)]
 obtain ⟨inf,hi1,hi2,hi3,hi4⟩:=hE.inf
 obtain ⟨hf,Fs,hh,hal⟩:=hs.world
 obtain ⟨hown,hFs⟩:=hh.at_ i _ hi
 have hsz:(⟨l.toArray⟩:ByteArray).size=l.length:=by simp [ByteArray.size]
 obtain ⟨v',w',e1,e2,e3,e4⟩:=run_append_str_at (P:=C.P) w t u ty E inf ht.1 hu hi1 hi2 hi3 hi4 v n cs hown ⟨l.toArray⟩ (by rw [hsz];exact hb)
 have hrun:(execOp a.eval ⟨some d,.call ⟨.builtin .append,#[s,x],#[t,u]⟩,ty,pos,aft,g⟩).run C.P w = .ok (.value v') w':=by
  have hy':a.eval x = .string ⟨l.toArray⟩:=opv_eval hs hy
  simp [execOp,resolve,invoke,builtin,opv_eval hs hx,hy',e1]
 simp only [Oper.wp,hrun,Oper.upon]
 rw [strCells_sv,hsz] at e2
 refine hK _ _ (h v' _ _ ?_)
 have hlt:i<own.length:=(List.getElem?_eq_some_iff.1 hi).1
 have hup:=HW.update (own2:=[]) (A':=row v' E 1 (n+l.length) (cs++l.map byv)) hf hh hal hlt (.ofGrown e3 (fun k hk=>(hFs k).2 hk.symm) (sem_drawn _ _ _ _ e1)) (HeapAt.one (row_of e2)) (fun j b hb=>(e4 b hb.2).imp (hFs b).2 id)
 rw [List.append_nil] at hup
 exact hs.put hup (d:=some d) (fun i hi=>by cases hi;simpa [Nat.blt_eq] using hd) v'
end
section
variable {C : Cx} {sl : List (Nat × Value)} {own : List Asn} {dst : Option Nat} {ty : TypeId} {pos : String} {aft : Array Edge} {g : Option (Nat × Bool)} {x y : Operand} {t t' : TypeId}
theorem Yl.sliceData {x:Operand} {tys:Array TypeId} {ad:Addr} {n c:Nat} (hx:opv ⟨sl,own⟩ x=some (.slice (some ad) n c)) (hc:c ≠ 0) :
  Yl C ⟨sl,own⟩ ⟨dst,.call ⟨.builtin .unsafeSliceData,#[x],tys⟩,ty,pos,aft,g⟩ (.pointer (some ad)):=
 fun a w hs=>by
  have h:=Lib.run_unsafeSliceData_row (P:=C.P) (w:=w) tys ty ad n c hc
  simp [execOp,resolve,invoke,builtin,opv_eval hs hx,h]
theorem bld_sl {w:World} {F:Nat→Prop} {v:Value} {U:TypeId} {n:Nat} {cs:List Value} (h:(row v U 1 n cs).holds w F) (hn:0<n):∃ gb cap,v = .slice (some ⟨gb,0,none⟩) n cap∧cap ≠ 0:=by
 rcases h.1.2 with ⟨_,rfl⟩ | ⟨gb,cap,cur,rfl,_,_,hnc,_⟩
 ·omega
 ·exact ⟨gb,cap,rfl,by omega⟩
end
section
variable {C : Cx} {sl : List (Nat × Value)} {own : List Asn} {ops : Array Oper} {Q : Exit → Act → World → Prop} {ty : TypeId} {pos : String} {aft : Array Edge} {g : Option (Nat × Bool)} {rest : List Oper}
theorem AK.unsafeStr (i:Nat) {d:Nat} {x y:Operand} {pt it E:TypeId} {gb n cap:Nat} {l:List UInt8} (hi:own[i]? = some (row (.slice (some ⟨gb,0,none⟩) n cap) E 1 n (l.map byv))) (hp:C.P.underlying pt=some (.pointer E)) (hc:C.P.cellsOf E=1)
  (h0:l ≠ []) (hn:n=l.length) (hx:opv ⟨sl,own⟩ x=some (.pointer (some ⟨gb,0,none⟩))) (hy:opv ⟨sl,own⟩ y=some (.int .i64 n)) (hg:Grd ops sl g) (hd:Nat.blt d C.N=true)
  (h:AK C ⟨(d,sv l) :: sl,own.set i empA⟩ (wpList C.P ops Q rest)) :
  AK C ⟨sl,own⟩ (wpList C.P ops Q (⟨some d,.call ⟨.builtin .unsafeString,#[x,y],#[pt,it]⟩,ty,pos,aft,g⟩ :: rest)):=by
 subst hn
 intro a w hs
 refine wpList_step fun K hK=>?_
 rw [if_pos (wanted_of_Grd hs hg)]
 obtain ⟨hf,Fs,hh,hal⟩:=hs.world
 obtain ⟨hown,hFs⟩:=hh.at_ i _ hi
 have hcells:=hown.cells (g:=gb) rfl
 have hrun:(execOp a.eval ⟨some d,.call ⟨.builtin .unsafeString,#[x,y],#[pt,it]⟩,ty,pos,aft,g⟩).run C.P w = .ok (.value (sv l)) (w.freeze ⟨gb,0,none⟩ l.length):=by
  rcases hown.2 with ⟨hv,_⟩ | ⟨g1,cap1,cur,hv,_,hgb,hnc,hcm,hcs,_⟩
  ·cases hv
  ·cases hv
   have h1:=Lib.run_unsafeString_row (P:=C.P) w pt it ty E hp hc gb cur.size (by simp [World.shape?,hgb]) l h0 (by omega) (by unfold maxLen at hcm;omega) (fun j u hu=>hcells j _ (by simp [hu,byv]))
   simp [execOp,resolve,invoke,builtin,opv_eval hs hx,opv_eval hs hy,h1,sv]
 simp only [Oper.wp,hrun,Oper.upon]
 refine hK _ _ (h _ _ ?_)
 have hlt:i<own.length:=(List.getElem?_eq_some_iff.1 hi).1
 have hfx:FrameX (Fs i) w (w.freeze ⟨gb,0,none⟩ l.length):=by
  unfold World.freeze
  split
  ·exact FrameX.refl _ _
  ·exact ⟨rfl,rfl,rfl,by simp,fun k hk hF=>by
    simp only [Array.getElem?_modify]
    rw [if_neg (fun e=>hF ((hFs k).2 (by simp [Value.ownBlock,e])))],Nat.le_refl _⟩
 have hup:=HW.update (own2:=[]) (A':=empA) hf hh hal hlt hfx (HeapAt.one (A:=empA) (F:=fun _=>False) (fun b hb=>hb)) (fun j b hb=>hb.2.elim)
 rw [List.append_nil] at hup
 exact hs.put hup (d:=some d) (fun i hi=>by cases hi;simpa [Nat.blt_eq] using hd) (sv l)
end
end Go.Sx
namespace Go.Sx
open Go.RowKit
def adOk (b:Nat) (ad:Value):Prop:=ad = .pointer none∨ad = .pointer (some ⟨b,0,none⟩)
def bldA (T U:TypeId) (b:Nat) (ad v:Value) (l:List UInt8):Asn:=bigA [box b T 2 [ad,v],row v U 1 l.length (l.map byv)]
theorem bldA_snoc (T U:TypeId) (b:Nat) (ad v:Value) (l m:List UInt8):bigA [box b T 2 [ad,v],row v U 1 (l.length+m.length) (l.map byv++m.map byv)]=bldA T U b ad v (l++m):=by
 unfold bldA;rw [List.length_append,List.map_append]
theorem ltr97 {n:Int} (h:0≤n∧n<6):(((97+UInt8.ofNat n.toNat:UInt8).toNat:Nat):Int)=97+n:=by
 obtain ⟨m,rfl⟩:∃ m:Nat,n=m:=⟨n.toNat,by omega⟩
 have:m=0∨m=1∨m=2∨m=3∨m=4∨m=5:=by omega
 rcases this with rfl | rfl | rfl | rfl | rfl | rfl <;> rfl
theorem wrE_eq (e:Ex):wrE e=if e.op=1 then [48] else if e.op=2 then [49] else if e.op=3 then [97+UInt8.ofNat e.lt.toNat] else if e.op=4 then wrL [124] 2 false e.kids else if e.op=6 then wrL [38] 3 false e.kids
  else if e.op=5 then wrL [] 4 false e.kids else if e.op=8 then 33 :: wrL [] 4 false e.kids else if e.op=7 then wrL [] 5 false e.kids++[42] else []:=by
 cases e with | mk op lt ks=>simp only [wrE,Ex.op,Ex.lt,Ex.kids];rfl
def bodyW (least:Int) (k:Ex):List UInt8:=if least≤levE k.op then wrE k else 40 :: (wrE k++[41])
theorem wrL_snoc (sep:List UInt8) (least:Int) (k:Ex):∀ (b:Bool) (ks:List Ex),wrL sep least b (ks++[k])=wrL sep least b ks++((if b || !ks.isEmpty then sep else [])++bodyW least k)
 | b,[]=>by cases b <;> simp [wrL,bodyW]
 | b,x :: ks=>by
  simp only [List.cons_append,wrL,wrL_snoc sep least k true ks,Bool.true_or,if_true,List.isEmpty_cons,Bool.not_false,Bool.or_true,List.append_assoc]
theorem wrL_take (sep:List UInt8) (least:Int) (ks:List Ex) (k:Nat) (hk:k<ks.length):wrL sep least false (ks.take (k+1))=wrL sep least false (ks.take k)++((if 0<k then sep else [])++bodyW least (ks.getD k default)):=by
 rw [take_snocD default ks k hk,wrL_snoc]
 congr 2
 rcases Nat.eq_zero_or_pos k with rfl | h
 ·simp
 ·have:(ks.take k).isEmpty=false:=by
   cases ks with
   | nil=>simp at hk
   | cons a l=>obtain ⟨m,rfl⟩:∃ m,k=m+1:=⟨k - 1,by omega⟩;rfl
  rw [this];simp [h]
theorem wrL_le (sep:List UInt8) (least:Int) (ks:List Ex) (k:Nat):(wrL sep least false (ks.take k)).length≤(wrL sep least false ks).length:=by
 have:∀ (m:Nat),k≤m→m≤ks.length→(wrL sep least false (ks.take k)).length≤(wrL sep least false (ks.take m)).length:=by
  intro m h1 h2
  induction m with
  | zero=>rw [show k=0 by omega];exact Nat.le_refl _
  | succ m ih=>
   rcases Nat.lt_or_ge k (m+1) with h | h
   ·rw [wrL_take sep least ks m (by omega),List.length_append]
    have:=ih (by omega) (by omega)
    omega
   ·rw [show k=m+1 by omega];exact Nat.le_refl _
 rcases Nat.lt_or_ge k ks.length with h | h
 ·have:=this ks.length (by omega) (Nat.le_refl _)
  rwa [List.take_length] at this
 ·rw [List.take_of_length_le h];exact Nat.le_refl _
theorem bodyW_len (least:Int) (k:Ex):(wrE k).length≤(bodyW least k).length:=by
 unfold bodyW;split
 ·exact Nat.le_refl _
 ·simp;omega
theorem fmtE_some {e:Ex} {t:List UInt8} (h:fmtE e=some t):(validE e 6=0∧t=wrE e∧(wrE e).length≤1073741824)∨(validE e 6 ≠ 0∧t=[]):=by
 unfold fmtE at h
 split at h
 ·obtain ⟨h1,h2⟩:=lim_some h
  exact .inl ⟨by assumption,h1,h2⟩
 ·cases h;exact .inr ⟨by assumption,rfl⟩
theorem valid_wf {e:Ex} {n:Int} (h:validE e n=0):wfE n e=true:=by
 unfold validE at h
 split at h
 ·cases h
 ·split at h
  ·split at h
   ·assumption
   ·cases h
  ·cases h
theorem wf_kid {e:Ex} {n:Int} (h:wfE n e=true) {i:Nat} (hi:i<e.kids.length):wfE n (e.kids.getD i default)=true:=by
 rw [wfE_eq] at h
 have hall:e.kids.all (wfE n)=true→wfE n (e.kids.getD i default)=true:=fun ha=>by
  rw [List.all_eq_true] at ha
  have:=ha e.kids[i] (List.getElem_mem hi)
  simpa [List.getD_eq_getElem?_getD,hi] using this
 split at h
 ·simp only [Bool.and_eq_true,beq_iff_eq] at h;omega
 ·split at h
  ·cases h
  ·split at h
   ·simp only [beq_iff_eq] at h;omega
   ·split at h
    ·simp only [Bool.and_eq_true] at h;exact hall h.2
    ·split at h
     ·simp only [Bool.and_eq_true] at h;exact hall h.2
     ·cases h
theorem wf_letter {e:Ex} {n:Int} (h:wfE n e=true) (ho:e.op=3):0≤e.lt∧e.lt<n:=by
 rw [wfE_eq,if_pos ho] at h
 simp only [Bool.and_eq_true,decide_eq_true_eq] at h
 exact ⟨h.1.2,h.2⟩
end Go.Sx
namespace Go.Proofs.YtbibnpdnmmgacaaGreatDoor
open Go.Sx Go.RowKit
theorem noesc:NoEsc Tryz.prog 206:=⟨_,Tryz.func206,by kernel_rfl,by kernel_rfl,by kernel_rfl,by kernel_rfl⟩
theorem s_cc0 (w:World) (F:Nat→Prop) (b:Nat) (v:Value) (sv1:IsSl v) (hA:(box b 191 2 [.pointer none,v]).holds w F):CallM Tryz.prog 198 [.pointer (some ⟨b,0,none⟩)] w F (fun r A o=>A=box b 191 2 [.pointer (some ⟨b,0,none⟩),v]∧o=[]):=by
 refine specM_of Tryz.func198 rfl (leb rfl) hA ?_
 refine .sr fun _ hK1=>?_
 refine .mv rfl (.v (.nilCheck rfl) (.v (.fieldAddr fd191_0 rfl) (.v (.loadBox on189 rfl bsp rfl) ?_)))
 refine .v (.eqlNilNil (by kernel_rfl) rfl rfl) ?_
 refine .nt hK1 ?_
 refine AK.cond_t rfl (rfl) ?_
 refine AK.region ?_
 refine .mv rfl (.mv rfl ?_)
 refine .v (.toUnsafe (te:=191) (cs:=[.pointer none,v]) (by kernel_rfl) (by kernel_rfl) (by kernel_rfl) rfl bsp (leb rfl)) ?_
 refine .v (.noEsc noesc rfl) ?_
 refine .v (.fromUnsafe 0 (u:=191) rfl (by kernel_rfl) (by kernel_rfl) (by kernel_rfl) (by kernel_rfl) rfl) ?_
 refine .v (.nilCheck rfl) (.v (.fieldAddr fd191_0 rfl) ?_)
 refine AK.storeBox 0 (us:=[.pointer (some ⟨b,0,none⟩)]) (cs':=[.pointer (some ⟨b,0,none⟩),v]) rfl sz189 rfl rfl rfl rfl oneP (leb rfl) rfl trivial ?_
 refine .nil ?_
 refine AK.endG [] rfl (.nil) (fun w hw=>⟨_,_,_,?_,rfl,Ret.of (hw.pick [0] (by decide) rfl rfl)⟩)
 exact ⟨rfl,rfl⟩
theorem s_cc1 (w:World) (F:Nat→Prop) (b:Nat) (v:Value) (sv1:IsSl v) (hA:(box b 191 2 [.pointer (some ⟨b,0,none⟩),v]).holds w F):CallM Tryz.prog 198 [.pointer (some ⟨b,0,none⟩)] w F (fun r A o=>A=box b 191 2 [.pointer (some ⟨b,0,none⟩),v]∧o=[]):=by
 refine specM_of Tryz.func198 rfl (leb rfl) hA ?_
 refine .sr fun _ hK1=>?_
 refine .mv rfl (.v (.nilCheck rfl) (.v (.fieldAddr fd191_0 rfl) (.v (.loadBox on189 rfl bsp rfl) ?_)))
 refine .v (.eqlSomeNil (by kernel_rfl) rfl rfl) ?_
 refine .nt hK1 ?_
 refine AK.cond_f rfl (rfl) ?_
 refine .sr fun _ hK2=>?_
 refine .mv rfl (.v (.nilCheck rfl) (.v (.fieldAddr fd191_0 rfl) (.v (.loadBox on189 rfl bsp rfl) (.mv rfl ?_))))
 refine .v (.neqPtrSame (te:=191) (by kernel_rfl) (by kernel_rfl) rfl rfl) ?_
 refine .nt hK2 ?_
 refine AK.cond_f rfl (rfl) ?_
 refine .skip ?_
 refine AK.endG [] rfl (.nil) (fun w hw=>⟨_,_,_,?_,rfl,Ret.of (hw.pick [0] (by decide) rfl rfl)⟩)
 exact ⟨rfl,rfl⟩
theorem s_copycheck (w:World) (F:Nat→Prop) (b:Nat) (v:Value) (sv1:IsSl v) (ad:Value) (had:adOk b ad) (hA:(box b 191 2 [ad,v]).holds w F):CallM Tryz.prog 198 [.pointer (some ⟨b,0,none⟩)] w F (fun r A o=>A=box b 191 2 [.pointer (some ⟨b,0,none⟩),v]∧o=[]):=by
 rcases had with rfl | rfl
 ·exact s_cc0 w F b v sv1 hA
 ·exact s_cc1 w F b v sv1 hA
set_option maxHeartbeats 400000 in
theorem s_wbyte (w:World) (F:Nat→Prop) (b:Nat) (ad v:Value) (l:List UInt8) (had:adOk b ad) (sv1:IsSl v) (hA:(bldA 191 5 b ad v l).holds w F) (c:UInt8) (hl:l.length+1≤140737488355328):CallM Tryz.prog 176 [.pointer (some ⟨b,0,none⟩),.int .u8 (c.toNat:Int)] w F (fun r A o=>∃ v',IsSl v'∧A=bldA 191 5 b (.pointer (some ⟨b,0,none⟩)) v' (l++[c])∧o=[]):=by
 refine specM_of' Tryz.func176 rfl (leb rfl) hA ?_
 refine .sr fun _ hK1=>?_
 refine .as rfl (.nt hK1 ?_)
 refine .sr fun _ hK2=>?_
 refine .mv rfl ?_
 refine AK.callN 0 rfl co198 rfl (fun w Fs hw hh hfr hal=>s_copycheck w (Fs 0) b v sv1 ad had (hh.at_ 0 _ rfl)) trivial rfl ?_
 rintro r A o ⟨rfl,rfl⟩
 refine .nt hK2 ?_
 refine .sr fun _ hK3=>?_
 refine .mv rfl (.mv rfl (.v (.nilCheck rfl) (.v (.fieldAddr fd191_1 rfl) (.v (.loadBox on184 rfl bsp rfl) (.mv rfl ?_)))))
 refine AK.append1 1 rfl sl184 el5 rfl (by decide) rfl (by intro k hk;cases hk;rfl) rfl (one'_cons rfl one'_nil) (by omega) (by omega) (by decide) rfl rfl (fun v2 _ sv2=>?_)
 refine .v (.nilCheck rfl) (.v (.fieldAddr fd191_1 rfl) ?_)
 refine AK.storeBox 0 (us:=[v2]) (cs':=[.pointer (some ⟨b,0,none⟩),v2]) rfl sz184 rfl rfl (by rw [IsSl.cells sv2]) rfl oneP (leb rfl) rfl trivial ?_
 refine .nt hK3 ?_
 refine .sr fun _ hK4=>?_
 refine .as rfl (.nt hK4 (.ret ?_))
 refine AK.ret1 rfl rfl (fun w hw=>⟨_,_,_,?_,rfl,Ret.ofBig0 (hw.pick [0,1] (by decide) rfl rfl)⟩)
 exact ⟨v2,sv2,bldA_snoc 191 5 b _ v2 l [c],rfl⟩
set_option maxHeartbeats 400000 in
theorem s_wstr (w:World) (F:Nat→Prop) (b:Nat) (ad v:Value) (l:List UInt8) (had:adOk b ad) (sv1:IsSl v) (hA:(bldA 191 5 b ad v l).holds w F) (m:List UInt8) (hl:l.length+m.length≤140737488355328):CallM Tryz.prog 199 [.pointer (some ⟨b,0,none⟩),sv m] w F (fun r A o=>∃ v',IsSl v'∧A=bldA 191 5 b (.pointer (some ⟨b,0,none⟩)) v' (l++m)∧o=[]):=by
 refine specM_of' Tryz.func199 rfl (leb rfl) hA ?_
 refine .sr fun _ hK1=>?_
 refine .as rfl (.as rfl (.nt hK1 ?_))
 refine .sr fun _ hK2=>?_
 refine .mv rfl ?_
 refine AK.callN 0 rfl co198 rfl (fun w Fs hw hh hfr hal=>s_copycheck w (Fs 0) b v sv1 ad had (hh.at_ 0 _ rfl)) trivial rfl ?_
 rintro r A o ⟨rfl,rfl⟩
 refine .nt hK2 ?_
 refine .sr fun _ hK3=>?_
 refine .mv rfl (.mv rfl (.v (.nilCheck rfl) (.v (.fieldAddr fd191_1 rfl) (.v (.loadBox on184 rfl bsp rfl) (.mv rfl ?_)))))
 refine AK.appendStr 1 rfl sl184 el5 un9 rfl rfl (by omega) trivial rfl (fun v2=>?_)
 refine AK.shape 1 rfl (fun sv2=>?_)
 refine .v (.nilCheck rfl) (.v (.fieldAddr fd191_1 rfl) ?_)
 refine AK.storeBox 0 (us:=[v2]) (cs':=[.pointer (some ⟨b,0,none⟩),v2]) rfl sz184 rfl rfl (by rw [IsSl.cells sv2]) rfl oneP (leb rfl) rfl trivial ?_
 refine .nt hK3 ?_
 refine .sr fun _ hK4=>?_
 refine .mv rfl (.v (.lenS un9 rfl) (.as rfl (.as rfl (.nt hK4 (.ret ?_)))))
 refine AK.ret2 rfl rfl rfl (fun w hw=>⟨_,_,_,?_,rfl,Ret.ofBig0 (hw.pick [0,1] (by decide) rfl rfl)⟩)
 exact ⟨v2,sv2,bldA_snoc 191 5 b _ v2 l m,rfl⟩
def WrS (e:Ex):Prop:=∀ (w:World) (F:Nat→Prop) (b:Nat) (ad v:Value) (l:List UInt8) (had:adOk b ad) (sv1:IsSl v) (hA:(bldA 191 5 b ad v l).holds w F) (s:Value) (h:RdK (cellR F w) s e.kids) (hwf:wfE 6 e=true) (hl:l.length+(wrE e).length≤1099511627776),CallM Tryz.prog 151 [.pointer (some ⟨b,0,none⟩),.agg #[.int .i64 e.op,.int .i64 e.lt,s]] w F (fun r A o=>∃ ad' v',adOk b ad'∧IsSl v'∧A=bldA 191 5 b ad' v' (l++wrE e)∧o=[])
set_option maxHeartbeats 2000000 in
theorem s_wkids (w:World) (F:Nat→Prop) (b:Nat) (ad v:Value) (l:List UInt8) (had:adOk b ad) (sv1:IsSl v) (hA:(bldA 191 5 b ad v l).holds w F) (s:Value) (ks:List Ex) (ih:∀ i,i<ks.length→WrS (ks.getD i default)) (sep:List UInt8) (least:Int) (h:RdK (cellR F w) s ks) (hwf:∀ i,i<ks.length→wfE 6 (ks.getD i default)=true) (hl:l.length+(wrL sep least false ks).length≤1099511627776):CallM Tryz.prog 177 [.pointer (some ⟨b,0,none⟩),s,sv sep,.int .i64 least] w F (fun r A o=>∃ ad' v',adOk b ad'∧IsSl v'∧A=bldA 191 5 b ad' v' (l++wrL sep least false ks)∧o=[]):=by
 obtain ⟨ss,hsl,hx,hk⟩:=h.inv
 have hr:=hx.rd
 have hm:=hr.le
 refine specM_of Tryz.func177 rfl (leb rfl) hA ?_
 refine .sr fun _ hK1=>?_
 refine .mv rfl (.v (.lenR sl22 rfl rdp) (.mv rfl (.nt hK1 (.block ?_))))
 refine AK.loopK (X:=Nat × Value × Value) [(0,_),(2,_),(3,_),(10,_),(11,_)] (fun x=>[(12,.int .i64 (x.1:Int))]) (fun x=>[bldA 191 5 b x.2.1 x.2.2 (l++(wrL sep least false (ks.take x.1)))]) (fun x=>x.1≤ks.length∧adOk b x.2.1∧IsSl x.2.2) (fun x=>ks.length - x.1) ((0,ad,v)) slr ?_ ?_ ?_ ?_
 ·exact ⟨Nat.zero_le _,had,sv1⟩
 ·exact slr
 ·exact fun w hw=>by simpa [wrL] using hw
 ·intro x hg0 _ hK2
  refine .sr fun _ hK3=>?_
  refine .v (.lss rfl rfl) (.nt hK3 ?_)
  refine .seq fun _ hK4=>?_
  refine AK.condD rfl (fun hc0=>?_) (fun hc0=>?_)
  ·have hkl:x.1<ks.length:=by omega
   have sk:=(hk x.1 hkl).sl
   have hbw:=wrL_take sep least ks x.1 hkl
   have hle:=wrL_le sep least ks (x.1+1)
   rw [hbw,List.length_append,List.length_append] at hle
   have hbl:=bodyW_len least (ks.getD x.1 default)
   refine .skip ?_
   refine AK.then_ (hK4 _ ?_)
   refine .seq fun _ hK5=>?_
   refine .block ?_
   refine .sr fun _ hK6=>?_
   refine .mv rfl ?_
   first | refine .v (.iN sl22 rfl rfl) ?_ | refine .v (.iK sl22 rfl rfl) ?_
   refine .v (.loadE ag24 rfl rdp (by assumption) rfl (by omega)) ?_
   refine AK.alloc el24 rfl rfl trivial rfl (fun bx9=>?_)
   refine .as rfl ?_
   refine AK.storeBox 1 (us:=[.int .i64 (ks.getD x.1 default).op,.int .i64 (ks.getD x.1 default).lt,ss.getD x.1 undef]) (cs':=[.int .i64 (ks.getD x.1 default).op,.int .i64 (ks.getD x.1 default).lt,ss.getD x.1 undef]) rfl sz24 rfl rfl rfl rfl oneP (leb rfl) rfl trivial ?_
   refine .nt hK6 ?_
   refine .seq fun _ hK7=>?_
   refine .sr fun _ hK8=>?_
   refine .mv rfl (.v (.gtr rfl rfl) (.nt hK8 ?_))
   refine AK.condD rfl (fun hc1=>?_) (fun hc1=>?_)
   ·rw [if_pos (show 0<x.1 by omega)] at hle hbw
    refine AK.region ?_
    refine .mv rfl (.mv rfl ?_)
    refine AK.callN 0 rfl co199 rfl (fun w Fs hw hh hfr hal=>s_wstr w (Fs 0) b x.2.1 x.2.2 (l++(wrL sep least false (ks.take x.1))) hg0.2.1 hg0.2.2 (hh.at_ 0 _ rfl) sep (by rw [List.length_append];omega)) trivial rfl ?_
    rintro r A o ⟨v2,sv2,rfl,rfl⟩
    refine .nt hK7 ?_
    refine .seq fun _ hK9=>?_
    refine .sr fun _ hK10=>?_
    refine .v (.fieldAddr fd24_0 rfl) (.v (.loadBox on3 rfl bsp rfl) ?_)
    refine AK.call co200 rfl (fun w hw=>s_level w _) trivial rfl ?_
    rintro r o ⟨rfl,rfl⟩
    refine .mv rfl (.v (.geq rfl rfl) (.nt hK10 ?_))
    refine AK.condD rfl (fun hc2=>?_) (fun hc2=>?_)
    ·have hbd:bodyW least (ks.getD x.1 default)=wrE (ks.getD x.1 default):=if_pos (by omega)
     refine .sr fun _ hK11=>?_
     refine .mv rfl (.v (.loadBoxG ag24 rfl bsp rfl rfl) ?_)
     refine AK.callN 0 rfl co151 rfl (fun w Fs hw hh hfr hal=>ih x.1 hkl w (Fs 0) b _ v2 _ (.inr rfl) sv2 (hh.at_ 0 _ rfl) _ ((hk x.1 hkl).atN hfr hal 0) (hwf x.1 hkl) (by simp only [List.length_append];omega)) trivial rfl ?_
     rintro r A o ⟨ad3,v3,had3,sv3,rfl,rfl⟩
     refine .nt hK11 (.exit (.then_exit (.block_exit ?_)))
     refine AK.then_ (hK5 _ ?_)
     refine AK.region ?_
     refine .v (.add rfl rfl (by omega)) ?_
     refine .mv rfl (.nil ?_)
     refine AK.then_ (hK2 _ _ ((x.1+1,ad3,v3)) ⟨by dsimp only;omega,had3,sv3⟩ (by dsimp only;omega) (slr) (fun w hw=>by have h:=hw.pick [0] (by decide) rfl rfl;dsimp only;rw [hbw,hbd];simpa [List.append_assoc] using h))
    ·have hbd:bodyW least (ks.getD x.1 default)=40 :: (wrE (ks.getD x.1 default)++[41]):=if_neg (by omega)
     have hbl2:(bodyW least (ks.getD x.1 default)).length=(wrE (ks.getD x.1 default)).length+2:=by rw [hbd];simp
     refine .skip ?_
     refine AK.then_ (hK9 _ ?_)
     refine .sr fun _ hK12=>?_
     refine .mv rfl ?_
     refine AK.callN 0 rfl co176 rfl (fun w Fs hw hh hfr hal=>s_wbyte w (Fs 0) b _ v2 _ (.inr rfl) sv2 (hh.at_ 0 _ rfl) 40 (by simp only [List.length_append];omega)) trivial rfl ?_
     rintro r A o ⟨v3,sv3,rfl,rfl⟩
     refine .nt hK12 ?_
     refine .sr fun _ hK13=>?_
     refine .mv rfl (.v (.loadBoxG ag24 rfl bsp rfl rfl) ?_)
     refine AK.callN 0 rfl co151 rfl (fun w Fs hw hh hfr hal=>ih x.1 hkl w (Fs 0) b _ v3 _ (.inr rfl) sv3 (hh.at_ 0 _ rfl) _ ((hk x.1 hkl).atN hfr hal 0) (hwf x.1 hkl) (by simp only [List.length_append,List.length_singleton];omega)) trivial rfl ?_
     rintro r A o ⟨ad4,v4,had4,sv4,rfl,rfl⟩
     refine .nt hK13 ?_
     refine AK.region ?_
     refine .mv rfl ?_
     refine AK.callN 0 rfl co176 rfl (fun w Fs hw hh hfr hal=>s_wbyte w (Fs 0) b ad4 v4 _ had4 sv4 (hh.at_ 0 _ rfl) 41 (by simp only [List.length_append,List.length_singleton];omega)) trivial rfl ?_
     rintro r A o ⟨v5,sv5,rfl,rfl⟩
     refine .nil (.block_normal ?_)
     refine AK.then_ (hK5 _ ?_)
     refine AK.region ?_
     refine .v (.add rfl rfl (by omega)) ?_
     refine .mv rfl (.nil ?_)
     refine AK.then_ (hK2 _ _ ((x.1+1,.pointer (some ⟨b,0,none⟩),v5)) ⟨by dsimp only;omega,.inr rfl,sv5⟩ (by dsimp only;omega) (slr) (fun w hw=>by have h:=hw.pick [0] (by decide) rfl rfl;dsimp only;rw [hbw,hbd];simpa [List.append_assoc] using h))
   ·rw [if_neg (show ¬ 0<x.1 by omega)] at hle hbw
    simp only [List.length_nil,Nat.zero_add] at hle
    refine .skip ?_
    refine AK.then_ (hK7 _ ?_)
    refine .seq fun _ hK14=>?_
    refine .sr fun _ hK15=>?_
    refine .v (.fieldAddr fd24_0 rfl) (.v (.loadBox on3 rfl bsp rfl) ?_)
    refine AK.call co200 rfl (fun w hw=>s_level w _) trivial rfl ?_
    rintro r o ⟨rfl,rfl⟩
    refine .mv rfl (.v (.geq rfl rfl) (.nt hK15 ?_))
    refine AK.condD rfl (fun hc2=>?_) (fun hc2=>?_)
    ·have hbd:bodyW least (ks.getD x.1 default)=wrE (ks.getD x.1 default):=if_pos (by omega)
     refine .sr fun _ hK16=>?_
     refine .mv rfl (.v (.loadBoxG ag24 rfl bsp rfl rfl) ?_)
     refine AK.callN 0 rfl co151 rfl (fun w Fs hw hh hfr hal=>ih x.1 hkl w (Fs 0) b x.2.1 x.2.2 _ hg0.2.1 hg0.2.2 (hh.at_ 0 _ rfl) _ ((hk x.1 hkl).atN hfr hal 0) (hwf x.1 hkl) (by simp only [List.length_append];omega)) trivial rfl ?_
     rintro r A o ⟨ad3,v3,had3,sv3,rfl,rfl⟩
     refine .nt hK16 (.exit (.then_exit (.block_exit ?_)))
     refine AK.then_ (hK5 _ ?_)
     refine AK.region ?_
     refine .v (.add rfl rfl (by omega)) ?_
     refine .mv rfl (.nil ?_)
     refine AK.then_ (hK2 _ _ ((x.1+1,ad3,v3)) ⟨by dsimp only;omega,had3,sv3⟩ (by dsimp only;omega) (slr) (fun w hw=>by have h:=hw.pick [0] (by decide) rfl rfl;dsimp only;rw [hbw,hbd];simpa [List.append_assoc] using h))
    ·have hbd:bodyW least (ks.getD x.1 default)=40 :: (wrE (ks.getD x.1 default)++[41]):=if_neg (by omega)
     have hbl2:(bodyW least (ks.getD x.1 default)).length=(wrE (ks.getD x.1 default)).length+2:=by rw [hbd];simp
     refine .skip ?_
     refine AK.then_ (hK14 _ ?_)
     refine .sr fun _ hK17=>?_
     refine .mv rfl ?_
     refine AK.callN 0 rfl co176 rfl (fun w Fs hw hh hfr hal=>s_wbyte w (Fs 0) b x.2.1 x.2.2 _ hg0.2.1 hg0.2.2 (hh.at_ 0 _ rfl) 40 (by simp only [List.length_append];omega)) trivial rfl ?_
     rintro r A o ⟨v3,sv3,rfl,rfl⟩
     refine .nt hK17 ?_
     refine .sr fun _ hK18=>?_
     refine .mv rfl (.v (.loadBoxG ag24 rfl bsp rfl rfl) ?_)
     refine AK.callN 0 rfl co151 rfl (fun w Fs hw hh hfr hal=>ih x.1 hkl w (Fs 0) b _ v3 _ (.inr rfl) sv3 (hh.at_ 0 _ rfl) _ ((hk x.1 hkl).atN hfr hal 0) (hwf x.1 hkl) (by simp only [List.length_append,List.length_singleton];omega)) trivial rfl ?_
     rintro r A o ⟨ad4,v4,had4,sv4,rfl,rfl⟩
     refine .nt hK18 ?_
     refine AK.region ?_
     refine .mv rfl ?_
     refine AK.callN 0 rfl co176 rfl (fun w Fs hw hh hfr hal=>s_wbyte w (Fs 0) b ad4 v4 _ had4 sv4 (hh.at_ 0 _ rfl) 41 (by simp only [List.length_append,List.length_singleton];omega)) trivial rfl ?_
     rintro r A o ⟨v5,sv5,rfl,rfl⟩
     refine .nil (.block_normal ?_)
     refine AK.then_ (hK5 _ ?_)
     refine AK.region ?_
     refine .v (.add rfl rfl (by omega)) ?_
     refine .mv rfl (.nil ?_)
     refine AK.then_ (hK2 _ _ ((x.1+1,.pointer (some ⟨b,0,none⟩),v5)) ⟨by dsimp only;omega,.inr rfl,sv5⟩ (by dsimp only;omega) (slr) (fun w hw=>by have h:=hw.pick [0] (by decide) rfl rfl;dsimp only;rw [hbw,hbd];simpa [List.append_assoc] using h))
  ·refine .exit (.then_exit (.then_exit (.block_exit ?_)))
   refine AK.endG [] rfl (.nil) (fun w hw=>⟨_,_,_,?_,rfl,Ret.of (hw.pick [0] (by decide) rfl rfl)⟩)
   have e1:x.1=ks.length:=by omega
   rw [e1,List.take_length]
   exact ⟨x.2.1,x.2.2,hg0.2.1,hg0.2.2,rfl,rfl⟩
set_option maxHeartbeats 2000000 in
theorem s_write_step (e:Ex) (ih:∀ i,i<e.kids.length→WrS (e.kids.getD i default)) (w:World) (F:Nat→Prop) (b:Nat) (ad v:Value) (l:List UInt8) (had:adOk b ad) (sv1:IsSl v) (hA:(bldA 191 5 b ad v l).holds w F) (s:Value) (h:RdK (cellR F w) s e.kids) (hwf:wfE 6 e=true) (hl:l.length+(wrE e).length≤1099511627776):CallM Tryz.prog 151 [.pointer (some ⟨b,0,none⟩),.agg #[.int .i64 e.op,.int .i64 e.lt,s]] w F (fun r A o=>∃ ad' v',adOk b ad'∧IsSl v'∧A=bldA 191 5 b ad' v' (l++wrE e)∧o=[]):=by
 refine specM_of Tryz.func151 rfl (leb rfl) hA ?_
 refine .sr fun _ hK1=>?_
 refine AK.box_ (E:=24) rfl rfl rfl trivial rfl (fun bx3=>?_)
 refine .nt hK1 ?_
 refine .sr fun _ hK2=>?_
 refine .v (.fieldAddr fd24_0 rfl) (.v (.loadBox on3 rfl bsp rfl) (.nt hK2 (.block ?_)))
 refine .sr fun _ hK3=>?_
 refine .v (.eql rfl rfl) (.as rfl (.nt hK3 ?_))
 refine AK.condD rfl (fun hc0=>?_) (fun hc0=>?_)
 ·have hwr:wrE e=[48]:=by rw [wrE_eq,if_pos hc0]
  rw [hwr] at hl ⊢
  simp only [List.length_singleton] at hl
  refine AK.region ?_
  refine .mv rfl ?_
  refine AK.callN 0 rfl co176 rfl (fun w Fs hw hh hfr hal=>s_wbyte w (Fs 0) b ad v l had sv1 (hh.at_ 0 _ rfl) 48 (by omega)) trivial rfl ?_
  rintro r A o ⟨v2,sv2,rfl,rfl⟩
  refine .nil (.block_normal ?_)
  refine AK.endG [] rfl (.nil) (fun w hw=>⟨_,_,_,?_,rfl,Ret.of (hw.pick [0] (by decide) rfl rfl)⟩)
  exact ⟨_,v2,.inr rfl,sv2,rfl,rfl⟩
 ·refine .sr fun _ hK4=>?_
  refine .v (.eql rfl rfl) (.as rfl (.nt hK4 ?_))
  refine AK.condD rfl (fun hc1=>?_) (fun hc1=>?_)
  ·have hwr:wrE e=[49]:=by rw [wrE_eq,if_neg hc0,if_pos hc1]
   rw [hwr] at hl ⊢
   simp only [List.length_singleton] at hl
   refine AK.region ?_
   refine .mv rfl ?_
   refine AK.callN 0 rfl co176 rfl (fun w Fs hw hh hfr hal=>s_wbyte w (Fs 0) b ad v l had sv1 (hh.at_ 0 _ rfl) 49 (by omega)) trivial rfl ?_
   rintro r A o ⟨v2,sv2,rfl,rfl⟩
   refine .nil (.block_normal ?_)
   refine AK.endG [] rfl (.nil) (fun w hw=>⟨_,_,_,?_,rfl,Ret.of (hw.pick [0] (by decide) rfl rfl)⟩)
   exact ⟨_,v2,.inr rfl,sv2,rfl,rfl⟩
  ·refine .sr fun _ hK5=>?_
   refine .v (.eql rfl rfl) (.as rfl (.nt hK5 ?_))
   refine AK.condD rfl (fun hc2=>?_) (fun hc2=>?_)
   ·have hwr:wrE e=[97+UInt8.ofNat e.lt.toNat]:=by rw [wrE_eq,if_neg hc0,if_neg hc1,if_pos hc2]
    rw [hwr] at hl ⊢
    simp only [List.length_singleton] at hl
    have hlt:=wf_letter hwf hc2
    refine AK.region ?_
    refine .mv rfl (.v (.fieldAddr fd24_1 rfl) (.v (.loadBox on3 rfl bsp rfl) ?_))
    refine .v (.convI (by kernel_rfl) un5 rfl (wrap_u8 (by omega))) ?_
    refine .v (.addU8 rfl rfl (by omega)) ?_
    refine AK.callN 0 rfl co176 rfl (fun w Fs hw hh hfr hal=>(by have h:=s_wbyte w (Fs 0) b ad v l had sv1 (hh.at_ 0 _ rfl) (97+UInt8.ofNat e.lt.toNat) (by omega);rw [ltr97 hlt] at h;exact h)) trivial rfl ?_
    rintro r A o ⟨v2,sv2,rfl,rfl⟩
    refine .nil (.block_normal ?_)
    refine AK.endG [] rfl (.nil) (fun w hw=>⟨_,_,_,?_,rfl,Ret.of (hw.pick [0] (by decide) rfl rfl)⟩)
    exact ⟨_,v2,.inr rfl,sv2,rfl,rfl⟩
   ·refine .sr fun _ hK6=>?_
    refine .v (.eql rfl rfl) (.as rfl (.nt hK6 ?_))
    refine AK.condD rfl (fun hc3=>?_) (fun hc3=>?_)
    ·have hwr:wrE e=wrL [124] 2 false e.kids:=by rw [wrE_eq,if_neg hc0,if_neg hc1,if_neg hc2,if_pos hc3]
     rw [hwr] at hl ⊢
     refine AK.region ?_
     refine .mv rfl (.v (.fieldAddr fd24_2 rfl) (.v (.loadBox on22 rfl bsp rfl) ?_))
     refine AK.callN 0 rfl co177 rfl (fun w Fs hw hh hfr hal=>s_wkids w (Fs 0) b ad v l had sv1 (hh.at_ 0 _ rfl) s e.kids ih [124] 2 (h.atN hfr hal 0) (fun i hi=>wf_kid hwf hi) (by (try simp only [List.length_append,List.length_singleton]);omega)) trivial rfl ?_
     rintro r A o ⟨ad3,v3,had3,sv3,rfl,rfl⟩
     refine .nil (.block_normal ?_)
     refine AK.endG [] rfl (.nil) (fun w hw=>⟨_,_,_,?_,rfl,Ret.of (hw.pick [0] (by decide) rfl rfl)⟩)
     exact ⟨ad3,v3,had3,sv3,rfl,rfl⟩
    ·refine .sr fun _ hK7=>?_
     refine .v (.eql rfl rfl) (.as rfl (.nt hK7 ?_))
     refine AK.condD rfl (fun hc4=>?_) (fun hc4=>?_)
     ·have hwr:wrE e=wrL [38] 3 false e.kids:=by rw [wrE_eq,if_neg hc0,if_neg hc1,if_neg hc2,if_neg hc3,if_pos hc4]
      rw [hwr] at hl ⊢
      refine AK.region ?_
      refine .mv rfl (.v (.fieldAddr fd24_2 rfl) (.v (.loadBox on22 rfl bsp rfl) ?_))
      refine AK.callN 0 rfl co177 rfl (fun w Fs hw hh hfr hal=>s_wkids w (Fs 0) b ad v l had sv1 (hh.at_ 0 _ rfl) s e.kids ih [38] 3 (h.atN hfr hal 0) (fun i hi=>wf_kid hwf hi) (by (try simp only [List.length_append,List.length_singleton]);omega)) trivial rfl ?_
      rintro r A o ⟨ad3,v3,had3,sv3,rfl,rfl⟩
      refine .nil (.block_normal ?_)
      refine AK.endG [] rfl (.nil) (fun w hw=>⟨_,_,_,?_,rfl,Ret.of (hw.pick [0] (by decide) rfl rfl)⟩)
      exact ⟨ad3,v3,had3,sv3,rfl,rfl⟩
     ·refine .sr fun _ hK8=>?_
      refine .v (.eql rfl rfl) (.as rfl (.nt hK8 ?_))
      refine AK.condD rfl (fun hc5=>?_) (fun hc5=>?_)
      ·have hwr:wrE e=wrL [] 4 false e.kids:=by rw [wrE_eq,if_neg hc0,if_neg hc1,if_neg hc2,if_neg hc3,if_neg hc4,if_pos hc5]
       rw [hwr] at hl ⊢
       refine AK.region ?_
       refine .mv rfl (.v (.fieldAddr fd24_2 rfl) (.v (.loadBox on22 rfl bsp rfl) ?_))
       refine AK.callN 0 rfl co177 rfl (fun w Fs hw hh hfr hal=>s_wkids w (Fs 0) b ad v l had sv1 (hh.at_ 0 _ rfl) s e.kids ih [] 4 (h.atN hfr hal 0) (fun i hi=>wf_kid hwf hi) (by (try simp only [List.length_append,List.length_singleton]);omega)) trivial rfl ?_
       rintro r A o ⟨ad3,v3,had3,sv3,rfl,rfl⟩
       refine .nil (.block_normal ?_)
       refine AK.endG [] rfl (.nil) (fun w hw=>⟨_,_,_,?_,rfl,Ret.of (hw.pick [0] (by decide) rfl rfl)⟩)
       exact ⟨ad3,v3,had3,sv3,rfl,rfl⟩
      ·refine .sr fun _ hK9=>?_
       refine .v (.eql rfl rfl) (.as rfl (.nt hK9 ?_))
       refine AK.condD rfl (fun hc6=>?_) (fun hc6=>?_)
       ·have hwr:wrE e=33 :: wrL [] 4 false e.kids:=by rw [wrE_eq,if_neg hc0,if_neg hc1,if_neg hc2,if_neg hc3,if_neg hc4,if_neg hc5,if_pos hc6]
        rw [hwr] at hl ⊢
        simp only [List.length_cons] at hl
        refine .sr fun _ hK10=>?_
        refine .mv rfl ?_
        refine AK.callN 0 rfl co176 rfl (fun w Fs hw hh hfr hal=>s_wbyte w (Fs 0) b ad v l had sv1 (hh.at_ 0 _ rfl) 33 (by omega)) trivial rfl ?_
        rintro r A o ⟨v2,sv2,rfl,rfl⟩
        refine .nt hK10 ?_
        refine AK.region ?_
        refine .mv rfl (.v (.fieldAddr fd24_2 rfl) (.v (.loadBox on22 rfl bsp rfl) ?_))
        refine AK.callN 0 rfl co177 rfl (fun w Fs hw hh hfr hal=>s_wkids w (Fs 0) b _ v2 _ (.inr rfl) sv2 (hh.at_ 0 _ rfl) s e.kids ih [] 4 (h.atN hfr hal 0) (fun i hi=>wf_kid hwf hi) (by (try simp only [List.length_append,List.length_singleton]);omega)) trivial rfl ?_
        rintro r A o ⟨ad3,v3,had3,sv3,rfl,rfl⟩
        refine .nil (.block_normal ?_)
        refine AK.endG [] rfl (.nil) (fun w hw=>⟨_,_,_,?_,rfl,Ret.of (hw.pick [0] (by decide) rfl rfl)⟩)
        exact ⟨ad3,v3,had3,sv3,by simp,rfl⟩
       ·refine .sr fun _ hK11=>?_
        refine .v (.eql rfl rfl) (.as rfl (.nt hK11 ?_))
        refine AK.condD rfl (fun hc7=>?_) (fun hc7=>?_)
        ·have hwr:wrE e=wrL [] 5 false e.kids++[42]:=by rw [wrE_eq,if_neg hc0,if_neg hc1,if_neg hc2,if_neg hc3,if_neg hc4,if_neg hc5,if_neg hc6,if_pos hc7]
         rw [hwr] at hl ⊢
         simp only [List.length_append,List.length_singleton] at hl
         refine .sr fun _ hK12=>?_
         refine .mv rfl (.v (.fieldAddr fd24_2 rfl) (.v (.loadBox on22 rfl bsp rfl) ?_))
         refine AK.callN 0 rfl co177 rfl (fun w Fs hw hh hfr hal=>s_wkids w (Fs 0) b ad v l had sv1 (hh.at_ 0 _ rfl) s e.kids ih [] 5 (h.atN hfr hal 0) (fun i hi=>wf_kid hwf hi) (by (try simp only [List.length_append,List.length_singleton]);omega)) trivial rfl ?_
         rintro r A o ⟨ad3,v3,had3,sv3,rfl,rfl⟩
         refine .nt hK12 ?_
         refine AK.region ?_
         refine .mv rfl ?_
         refine AK.callN 0 rfl co176 rfl (fun w Fs hw hh hfr hal=>s_wbyte w (Fs 0) b ad3 v3 _ had3 sv3 (hh.at_ 0 _ rfl) 42 (by simp only [List.length_append];omega)) trivial rfl ?_
         rintro r A o ⟨v4,sv4,rfl,rfl⟩
         refine .nil (.block_normal ?_)
         refine AK.endG [] rfl (.nil) (fun w hw=>⟨_,_,_,?_,rfl,Ret.of (hw.pick [0] (by decide) rfl rfl)⟩)
         exact ⟨_,v4,.inr rfl,sv4,by simp,rfl⟩
        ·refine .skip (.block_normal ?_)
         refine AK.endG [] rfl (.nil) (fun w hw=>⟨_,_,_,?_,rfl,Ret.of (hw.pick [0] (by decide) rfl rfl)⟩)
         rw [wrE_eq,if_neg hc0,if_neg hc1,if_neg hc2,if_neg hc3,if_neg hc4,if_neg hc5,if_neg hc6,if_neg hc7,List.append_nil]
         exact ⟨ad,v,had,sv1,rfl,rfl⟩
theorem s_write (e:Ex):WrS e:=Ex.ind (P:=WrS) (fun e ih w F b ad v l had sv1 hA s h hwf hl=>s_write_step e ih w F b ad v l had sv1 hA s h hwf hl) e
theorem wrE_ne:∀ e:Ex,wfE 6 e=true→wrE e ≠ []:=Ex.ind (P:=fun e=>wfE 6 e=true→wrE e ≠ []) (fun e ih hv hn=>by
 rw [wrE_eq] at hn
 have hw:=hv
 rw [wfE_eq] at hw
 by_cases h1:e.op=1
 ·rw [if_pos h1] at hn;cases hn
 rw [if_neg h1] at hn
 by_cases h2:e.op=2
 ·rw [if_pos h2] at hn;cases hn
 rw [if_neg h2] at hn
 by_cases h3:e.op=3
 ·rw [if_pos h3] at hn;cases hn
 rw [if_neg h3] at hn
 have body:∀ (sep:List UInt8) (least:Int),e.kids ≠ []→wrL sep least false e.kids=[]→False:=by
  intro sep least hne h
  obtain ⟨k,ks,hks⟩:∃ k ks,e.kids=k :: ks:=by
   cases hk:e.kids with
   | nil=>exact absurd hk hne
   | cons k ks=>exact ⟨k,ks,rfl⟩
  have hk0:0<e.kids.length:=by rw [hks];simp
  have h0:=ih 0 hk0 (wf_kid hv hk0)
  have e0:e.kids.getD 0 default=k:=by rw [hks];rfl
  rw [e0] at h0
  rw [hks] at h
  simp only [wrL,List.append_eq_nil_iff] at h
  first | exact h0 (by have h9:=h.1.2;by_cases hl:least≤levE k.op <;> simp [hl] at h9 <;> exact h9) | exact h0 (by have h9:=h.1;by_cases hl:least≤levE k.op <;> simp [hl] at h9 <;> exact h9) | (have h9:=h.2.1;by_cases hl:least≤levE k.op <;> simp [hl] at h9;exact h0 h9)
 have two:(e.op=4∨e.op=5∨e.op=6)→e.kids ≠ []:=by
  intro h he
  rw [if_neg h3,if_neg (show ¬ (e.op=1∨e.op=2) by omega),if_pos h,he] at hw
  simp at hw
 by_cases h4:e.op=4
 ·rw [if_pos h4] at hn;exact body _ _ (two (by omega)) hn
 rw [if_neg h4] at hn
 by_cases h6:e.op=6
 ·rw [if_pos h6] at hn;exact body _ _ (two (by omega)) hn
 rw [if_neg h6] at hn
 by_cases h5:e.op=5
 ·rw [if_pos h5] at hn;exact body _ _ (two (by omega)) hn
 rw [if_neg h5] at hn
 by_cases h8:e.op=8
 ·rw [if_pos h8] at hn;cases hn
 rw [if_neg h8] at hn
 by_cases h7:e.op=7
 ·rw [if_pos h7] at hn;simp at hn
 rw [if_neg h3,if_neg (show ¬ (e.op=1∨e.op=2) by omega),if_neg (show ¬ (e.op=4∨e.op=5∨e.op=6) by omega),if_neg (show ¬ (e.op=7∨e.op=8) by omega)] at hw
 simp at hw)
set_option maxHeartbeats 400000 in
theorem s_bstr (w:World) (F:Nat→Prop) (b:Nat) (ad v:Value) (l:List UInt8) (had:adOk b ad) (sv1:IsSl v) (hA:(bldA 191 5 b ad v l).holds w F) (h0:l ≠ []):CallM Tryz.prog 152 [.pointer (some ⟨b,0,none⟩)] w F (fun r A o=>r=sv l∧A=bigA [box b 191 2 [ad,v],empA]∧o=[]):=by
 have hA2:=hA
 obtain ⟨_,gh,_⟩:=hA2
 obtain ⟨gb,cap,rfl,hcap⟩:=bld_sl (gh.at_ 1 _ rfl) (List.length_pos_iff.2 h0)
 refine specM_of' Tryz.func152 rfl (leb rfl) hA ?_
 refine .sr fun _ hK1=>?_
 refine .as rfl (.nt hK1 ?_)
 refine .seq fun _ hK2=>?_
 refine AK.stillTail 10 mixed krf (fun _ hws=>?_)
 refine .v hws (.move rfl) (.v hws (.nilCheck rfl) (.v hws (.fieldAddr fd191_1 rfl) (.v hws (.loadBox on184 rfl bsp rfl) (.v hws (.sliceData rfl hcap) (.v hws (.move rfl) (.v hws (.nilCheck rfl) (.v hws (.fieldAddr fd191_1 rfl) ?_)))))))
 refine .v hws (.loadBox on184 rfl bsp rfl) (.v hws (.lenR sl184 rfl rdp) ?_)
 refine SK.nil (SK.fin hws ?_)
 refine AK.unsafeStr 1 rfl (by kernel_rfl) (by kernel_rfl) h0 rfl rfl rfl trivial rfl ?_
 refine .as rfl (.nt hK2 (.ret ?_))
 refine AK.ret1 rfl rfl (fun w hw=>⟨_,_,_,?_,rfl,Ret.ofBig0 (hw.pick [0,1] (by decide) rfl rfl)⟩)
 exact ⟨rfl,rfl,rfl⟩
set_option maxHeartbeats 800000 in
theorem s_format (w:World) (e:Ex) (s:Value) (h:RdK (cellR (fun _=>False) w) s e.kids) (t:List UInt8) (ht:fmtE e=some t):CallS Tryz.prog 101 [.agg #[.int .i64 e.op,.int .i64 e.lt,s]] w (fun r o=>r=sv t∧o=[]):=by
 refine spec_of Tryz.func101 rfl (leb rfl) ?_
 refine .sr fun _ hK1=>?_
 refine AK.box_ (E:=24) (cs:=[.int .i64 e.op,.int .i64 e.lt,s]) rfl rfl rfl trivial rfl (fun bx1=>?_)
 refine .as rfl (.nt hK1 ?_)
 refine .seq fun _ hK2=>?_
 refine .sr fun _ hK3=>?_
 refine .v (.loadBoxG ag24 rfl bsp rfl rfl) ?_
 refine AK.call co37 rfl (fun w hw=>s_val6 w e s (h.at hw)) trivial rfl ?_
 rintro r o ⟨rfl,rfl⟩
 refine .v (.not rfl) (.nt hK3 ?_)
 refine AK.condB rfl (fun hc0=>?_) (fun hc0=>?_)
 ·rcases fmtE_some ht with ⟨h1,_⟩ | ⟨_,rfl⟩
  ·exact absurd h1 (by simpa using hc0)
  refine .sr fun _ hK4=>?_
  refine .as rfl (.nt hK4 (.ret (.then_ret ?_)))
  refine AK.ret1 rfl rfl (fun w hw=>⟨_,_,?_,rfl,Ret.of (hw.pick [] (by decide) rfl rfl)⟩)
  exact ⟨rfl,rfl⟩
 ·obtain ⟨hv0,rfl,hlen⟩:validE e 6=0∧t=wrE e∧(wrE e).length≤1073741824:=by
   rcases fmtE_some ht with h1 | ⟨h1,_⟩
   ·exact h1
   ·exact absurd (by simpa using hc0) h1
  refine .skip ?_
  refine AK.then_ (hK2 _ ?_)
  refine .sr fun _ hK5=>?_
  refine AK.alloc el191 rfl rfl trivial rfl (fun bx3=>?_)
  refine .nt hK5 ?_
  refine .sr fun _ hK6=>?_
  refine .v (.loadBoxG ag24 rfl bsp rfl rfl) ?_
  refine AK.ghost 5 1 ?_
  refine AK.own' [bldA 191 5 bx3 (.pointer none) nilV []] (fun w hw=>by have h:=HW.unflat (l:=[_,_]) (own:=[]) (hw.pick [1,2] (by decide) rfl rfl);exact h) ?_
  refine AK.callN 0 rfl co151 rfl (fun w Fs hw hh hfr hal=>s_write e w (Fs 0) bx3 _ nilV [] (.inl rfl) nilSl (hh.at_ 0 _ rfl) s (h.atN hfr hal 0) (valid_wf hv0) (by simp only [List.length_nil];omega)) trivial rfl ?_
  rintro r A o ⟨ad2,v2,had2,sv2,rfl,rfl⟩
  refine .nt hK6 ?_
  refine .sr fun _ hK7=>?_
  refine AK.callN 0 rfl co152 rfl (fun w Fs hw hh hfr hal=>s_bstr w (Fs 0) bx3 ad2 v2 (wrE e) had2 sv2 (hh.at_ 0 _ rfl) (wrE_ne e (valid_wf hv0))) trivial rfl ?_
  rintro r A o ⟨rfl,rfl,rfl⟩
  refine .as rfl (.nt hK7 (.ret ?_))
  refine AK.ret1 rfl rfl (fun w hw=>⟨_,_,?_,rfl,Ret.of (hw.pick [] (by decide) rfl rfl)⟩)
  exact ⟨rfl,rfl⟩
end Go.Proofs.YtbibnpdnmmgacaaGreatDoor
namespace Go.Sx
open Go.RowKit
theorem bbeqT (a b:List UInt8):((⟨a.toArray⟩:ByteArray) == ⟨b.toArray⟩)=decide (a=b):=by
 show (a.toArray == b.toArray)=decide (a=b)
 rw [Bool.eq_iff_iff,beq_iff_eq,decide_eq_true_eq]
 constructor
 ·intro h;simpa using h
 ·intro h;rw [h]
theorem keyStrT {P:Program} {kt:TypeId} (hk:P.underlying kt=some .string):KeyL P kt sv where
 find:=by
  intro a es ks w h
  have now:∀ (es:List MapEntry) (ks:List (List UInt8)) (j:Nat),es.map (·.key)=ks.map sv→Instr.findNow .string (sv a) es j=some ((fidx a ks).bind fun i=>(es[i]?).map fun e=>(j+i,e.val)):=by
   intro es
   induction es with
   | nil=>intro ks j h;cases ks with
    | nil=>simp [Instr.findNow,fidx]
    | cons k ks=>simp at h
   | cons e es ih=>
    intro ks j h
    cases ks with
    | nil=>simp at h
    | cons k ks=>
     simp at h
     have hq:Instr.sameNow .string (sv a) (sv k)=some (decide (a=k)):=by
      show some ((⟨a.toArray⟩:ByteArray) == ⟨k.toArray⟩)=_
      rw [bbeqT]
     simp only [Instr.findNow,h.1,hq,fidx]
     by_cases hak:a=k
     ·simp [hak]
     ·simp only [hak,decide_false,if_false]
      rw [ih ks (j+1) (by simpa using h.2)]
      cases fidx a ks with
      | none=>simp
      | some i=>
       simp only [Option.map_some,Option.bind_some,List.getElem?_cons_succ]
       cases es[i]? with
       | none=>rfl
       | some e'=>simp;omega
  simp only [Instr.findKey,Sem.run_bind,run_underlying hk,Result.andThen_ok,now es ks 0 h]
  simp
 check:=by
  intro e a w
  have:∀ n,(Instr.checkKey e (n+1) kt (sv a)).run P w = .ok () w:=fun n=>by simp [Instr.checkKey,run_underlying hk,sv]
  exact this 9999
 same:=by
  intro a
  have:∀ n,Instr.sameBits (n+1) (sv a) (sv a)=true:=fun n=>by
   show ((⟨a.toArray⟩:ByteArray) == ⟨a.toArray⟩)=true
   rw [bbeqT];simp
  exact this 9999
def runO (TR TE TRI TI:Nat) (rb mb:Nat) (vE vN:Value) (es rs:List Value) (r:Run) (B:Bs) (l:List Itm):List Asn:=
 [box rb TR 5 [.int .i64 (r.L:Int),vE,vN,.int .i64 (r.dn:Int),.map (some mb)],row vE TE 3 r.ex.length (xcs r.ex es),row vN TRI 1 r.nx.length rs,bigA (matG (Value.int .i64) TI rs r.nx),mapA mb (mkv sv (Value.int .i64) r.num),forest B l]
structure RunF (vE vN:Value) (es rs:List Value) (r:Run) (l:List Itm):Prop where
 eL:es.length=r.ex.length
 g:Got l r.ex es
 rl:rs.length=r.nx.length
 sE:IsSl vE
 sN:IsSl vN
 le:r.ex.length≤512
 dn:r.dn≤r.ex.length
 nl:r.nx.length=r.dn
 Lb:r.L≤6
theorem addR_some {r q:Run} {e:Ex} (h:addR r e=some q):∃ t,fmtE e=some t∧q = { r with ex:=r.ex++[e],num:=mset r.num t (r.ex.length:Int) }:=by
 unfold addR at h
 obtain ⟨t,ht,h⟩:=bind_some h
 cases h
 exact ⟨t,ht,rfl⟩
theorem xcs_put {ks:List Ex} {ss:List Value} (h:ss.length=ks.length) (e:Ex) (s:Value) (z:List Value) (hz:z.length=3) :
  (xcs ks ss++z).take (ks.length * 3)++[.int .i64 e.op,.int .i64 e.lt,s]++(xcs ks ss++z).drop (ks.length * 3+3)=xcs (ks++[e]) (ss++[s]):=by
 have hl:=xcs_length ks ss h
 rw [List.take_left' hl,List.drop_eq_nil_of_le (by simp [hl,hz]),List.append_nil,xcs_snoc _ _ _ _ h]
theorem RunF.add {vE v2 vN:Value} {es rs:List Value} {r q:Run} {l:List Itm} {e:Ex} {s:Value} (h:RunF vE vN es rs r l) (hq:addR r e=some q) (hlt:r.ex.length<512) (hd:Itm.deep s e.kids∈l) (hs:IsSl s) (h2:IsSl v2):RunF v2 vN (es++[s]) rs q l:=by
 obtain ⟨t,ht,rfl⟩:=addR_some hq
 have h1:=h.eL;have h3:=h.dn
 refine ⟨by simp [h1],?_,h.rl,h2,h.sN,by simp;omega,by simp;omega,h.nl,h.Lb⟩
 have g':Got l (r.ex++[e]) es:=⟨fun i hi=>by
  have:=h.g.d i hi
  rw [getD_snoc,if_pos (by omega)];exact this,h.g.s⟩
 exact g'.snoc (by rw [getD_snoc,h1,if_neg (by omega),if_pos rfl];exact hd) hs
theorem RunF.later {vE vN:Value} {es rs:List Value} {r:Run} {l l':List Itm} (h:RunF vE vN es rs r l) (hs:∀ x∈l,x∈l'):RunF vE vN es rs r l':=⟨h.eL,h.g.later hs,h.rl,h.sE,h.sN,h.le,h.dn,h.nl,h.Lb⟩
theorem rowR_succ {n x:Nat} {r:Run} {row:List Int} {f:Run × List Int × Int} (h:rowR (n+1) x r row=some f):∃ p,letE (r.ex.getD r.dn default) (x:Int)=some p∧((p.2 ≠ 0∧f=(r,row,p.2))∨(p.2=0∧∃ t,fmtE p.1=some t ∧
  ((∃ i,mget r.num t=some i∧rowR n (x+1) r (row++[i])=some f)∨(mget r.num t=none∧((r.ex.length=512∧f=(r,row,3))∨(r.ex.length ≠ 512∧∃ r2,addR r p.1=some r2∧rowR n (x+1) r2 (row++[(r.ex.length:Int)])=some f)))))):=by
 rw [rowR] at h
 obtain ⟨p,hp,h⟩:=bind_some h
 refine ⟨p,hp,?_⟩
 by_cases h0:p.2=0
 ·rw [if_neg (by simp [h0])] at h
  obtain ⟨t,ht,h⟩:=bind_some h
  refine .inr ⟨h0,t,ht,?_⟩
  cases hm:mget r.num t with
  | some i=>rw [hm] at h;exact .inl ⟨i,rfl,h⟩
  | none=>
   rw [hm] at h
   refine .inr ⟨rfl,?_⟩
   by_cases h5:r.ex.length=512
   ·simp only [h5,if_true] at h;cases h;exact .inl ⟨h5,rfl⟩
   ·simp only [h5,if_false] at h
    obtain ⟨r2,h2,h⟩:=bind_some h
    exact .inr ⟨h5,r2,h2,h⟩
 ·rw [if_pos h0] at h;cases h;exact .inl ⟨h0,rfl⟩
theorem procR_some {q:Run} {res:Run × Int} (h:procR q=some res):∃ f,rowR q.L 0 q []=some f∧res=(if f.2.2 ≠ 0 then (f.1,f.2.2) else ({ f.1 with nx:=f.1.nx++[f.2.1],dn:=f.1.dn+1 },0)):=by
 unfold procR at h
 obtain ⟨f,hf,h⟩:=bind_some h
 refine ⟨f,hf,?_⟩
 split at h <;> (cases h;split <;> first | rfl | contradiction)
theorem addR_keeps {r q:Run} {e:Ex} (h:addR r e=some q):q.L=r.L∧q.nx=r.nx∧q.dn=r.dn∧q.ex=r.ex++[e]:=by
 obtain ⟨t,ht,rfl⟩:=addR_some h
 exact ⟨rfl,rfl,rfl,rfl⟩
theorem RunF.done {vE vN v2 mv:Value} {es rs:List Value} {r:Run} {l:List Itm} (h:RunF vE vN es rs r l) (hlt:r.dn<r.ex.length) (s2:IsSl v2) (row:List Int):RunF vE v2 es (rs++[mv]) { r with nx:=r.nx++[row],dn:=r.dn+1 } l:=by
 have h1:=h.rl;have h2:=h.nl
 exact ⟨h.eL,h.g,by simp [h1],h.sE,s2,h.le,hlt,by simp [h2],h.Lb⟩
end Go.Sx
