import Derived.Test.YtbibnpdnmmgacaaGreatDoorJZi
import Derived.Test.YtbibnpdnmmgacaaGreatDoorJZd
import Derived.Test.YtbibnpdnmmgacaaGreatDoorJZe
set_option linter.unusedVariables false
set_option linter.unusedSimpArgs false
set_option maxRecDepth 100000
namespace Go.Proofs.YtbibnpdnmmgacaaGreatDoor
open Go.Sx Go.RowKit
set_option maxHeartbeats 1000000 in
theorem s_radd (w:World) (F:Nat→Prop) (B:Bs) (l:List Itm) (hB:BsOk B w F) (rb mb:Nat) (vE vN:Value) (es rs:List Value) (q:Run) (hq:RunF vE vN es rs q l) (hA:(bigA (runO 137 24 67 3 rb mb vE vN es rs q B l)).holds w F) (e:Ex) (s:Value) (hm:Itm.deep s e.kids∈l) (ss:IsSl s) (q2:Run) (ha:addR q e=some q2) (hlt:q.ex.length<512):CallM Tryz.prog 99 [.pointer (some ⟨rb,0,none⟩),.agg #[.int .i64 e.op,.int .i64 e.lt,s]] w F (fun r A o=>r = .int .i64 (q.ex.length:Int)∧o=[]∧∃ v2 es2,RunF v2 vN es2 rs q2 l∧A=bigA (runO 137 24 67 3 rb mb v2 vN es2 rs q2 B l)):=by
 have ha2:=ha
 obtain ⟨t,ht,rfl⟩:=addR_some ha
 have heL:=hq.eL
 unfold runO at hA
 refine specM_of' Tryz.func99 rfl (leb rfl) hA ?_
 refine .sr fun _ hK1=>?_
 refine AK.box_ (E:=24) rfl rfl rfl trivial rfl (fun bx3=>?_)
 refine .as rfl (.nt hK1 ?_)
 refine .sr fun _ hK2=>?_
 refine .mv rfl (.v (.nilCheck rfl) (.v (.fieldAddr fd137_0 rfl) (.v (.fieldAddr fd135_1 rfl) (.v (.loadBox on22 rfl bsp rfl) (.v (.lenR sl22 rfl rdp) (.as rfl (.nt hK2 ?_)))))))
 refine .seq fun _ hK3=>?_
 try (conv=>enter [2,2];simp only [nrm])
 refine AK.held 7 mixed ?_
 refine HeldK.first 0 (fuel:=7) (listed':=(lb 8 1)) _ rfl krf krf rfl (Yl.move rfl) trivial rfl ?_
 refine HeldK.first 1 (fuel:=6) (listed':=(lb 8 3)) _ rfl krf krf rfl (Yl.nilCheck rfl) trivial rfl ?_
 refine HeldK.first 2 (fuel:=5) (listed':=(lb 8 7)) _ rfl krf krf rfl (Yl.fieldAddr fd137_1 rfl) trivial rfl ?_
 refine HeldK.first 3 (fuel:=4) (listed':=(lb 8 15)) _ rfl krf krf rfl (Yl.loadBox on133 rfl bsp rfl) trivial rfl ?_
 refine HeldK.first 4 (fuel:=3) (listed':=(lb 8 31)) _ rfl krf krf rfl (Yl.loadBoxG ag24 rfl bsp rfl rfl) trivial rfl ?_
 refine HeldK.first 6 (fuel:=2) (listed':=(lb 8 95)) _ rfl krf krf rfl (Yl.move rfl) trivial rfl ?_
 refine HeldK.one 5 (fuel:=1) (listed':=(lb 8 127)) krf rfl krf ?_
 refine AK.call co101 rfl (fun w hw=>s_format w e s (hw.kidR hB 5 rfl hm) t ht) trivial rfl ?_
 rintro r o ⟨rfl,rfl⟩
 refine .nil ?_
 try (conv=>enter [2,2];simp only [nrm])
 refine HeldK.back Go.Sx.hle ?_
 refine HeldK.one 7 (fuel:=0) (listed':=(lb 8 255)) krf rfl krf ?_
 refine AK.mapSet 4 rfl mp133 (keyStrT un9) rfl rfl rfl trivial ?_
 refine .nil ?_
 try (conv=>enter [2,2];simp only [nrm])
 refine HeldK.backN 8 krf rfl krf ?_
 refine .nil ?_
 refine AK.fromQn ?_
 refine AK.then_ (hK3 _ ?_)
 refine .seq fun _ hK4=>?_
 refine AK.joinK (X:=Value) [(5,_)] (fun z=>[]) (fun z=>[box rb 137 5 [.int .i64 (q.L:Int),z,vN,.int .i64 (q.dn:Int),.map (some mb)],row z 24 3 (q.ex.length+1) (xcs (q.ex++[e]) (es++[s])),row vN 67 1 q.nx.length rs,bigA (matG (Value.int .i64) 3 rs q.nx),mapA mb (mkv sv (Value.int .i64) (mset q.num t (q.ex.length:Int))),forest B l,box bx3 24 3 [.int .i64 e.op,.int .i64 e.lt,s]]) (fun z=>IsSl z) slr (fun _ hJ=>?_) (fun z hg=>?_)
 ·try (conv=>enter [2,2];simp only [nrm])
  refine AK.heldS _ 15 (fun _ hw=>hw.pick [6] (by decide) rfl rfl) mixed ?_
  refine HeldK.firstS (fun _ hw=>hw.pick [6] (by decide) rfl rfl) 0 (fuel:=14) (listed':=(lb 15 1)) _ rfl krf krf rfl (Yl.move rfl) trivial rfl ?_
  refine HeldK.firstS (fun _ hw=>hw.pick [6] (by decide) rfl rfl) 1 (fuel:=13) (listed':=(lb 15 3)) _ rfl krf krf rfl (Yl.nilCheck rfl) trivial rfl ?_
  refine HeldK.firstS (fun _ hw=>hw.pick [6] (by decide) rfl rfl) 2 (fuel:=12) (listed':=(lb 15 7)) _ rfl krf krf rfl (Yl.fieldAddr fd137_0 rfl) trivial rfl ?_
  refine HeldK.firstS (fun _ hw=>hw.pick [6] (by decide) rfl rfl) 3 (fuel:=11) (listed':=(lb 15 15)) _ rfl krf krf rfl (Yl.fieldAddr fd135_1 rfl) trivial rfl ?_
  refine HeldK.firstS (fun _ hw=>hw.pick [6] (by decide) rfl rfl) 5 (fuel:=10) (listed':=(lb 15 47)) _ rfl krf krf rfl (Yl.loadBoxG ag24 rfl bsp rfl rfl) trivial rfl ?_
  refine HeldK.two 4 7 (fuel:=9) (listed1:=(lb 15 63)) (listed2:=(lb 15 175)) krf rfl rfl krf krf ?_ ?_
  ·refine .v (.loadBox on22 rfl bsp rfl) (.nil ?_)
   try (conv=>enter [2,2];simp only [nrm])
   refine HeldK.backS (fun _ hw=>hw.pick [6] (by decide) rfl rfl) ?_
   refine HeldK.two 6 7 (fuel:=8) (listed1:=(lb 15 127)) (listed2:=(lb 15 191)) krf rfl rfl krf krf ?_ ?_
   ·refine .v (.lenR sl22 rfl rdp) (.nil ?_)
    try (conv=>enter [2,2];simp only [nrm])
    refine HeldK.backS (fun _ hw=>hw.pick [6] (by decide) rfl rfl) ?_
    refine HeldK.one 7 (fuel:=7) (listed':=(lb 15 255)) krf rfl krf ?_
    refine AK.lit (xs:=[.const (.agg #[.int .i64 0,.int .i64 0,.slice none 0 0])]) sl22 el24 rfl rfl rfl (by simp [Value.cells]) (by decide) (by decide) trivial rfl (fun lv=>?_)
    refine .nil ?_
    try (conv=>enter [2,2];simp only [nrm])
    refine HeldK.backS (fun _ hw=>hw.pick [6] (by decide) rfl rfl) ?_
    refine HeldK.one 8 (fuel:=6) (listed':=(lb 15 511)) krf rfl krf ?_
    refine AK.appendS 1 rfl sl22 el24 rfl (by decide) rfl rfl rfl rdp (one'_cons rfl (one'_cons rfl (one'_cons rfl one'_nil))) (by omega) (by omega) trivial rfl (fun v2=>?_)
    refine AK.shape 1 rfl (fun sv2=>?_)
    refine .nil ?_
    try (conv=>enter [2,2];simp only [nrm])
    refine HeldK.backS (fun _ hw=>hw.pick [6] (by decide) rfl rfl) ?_
    refine HeldK.firstS (fun _ hw=>hw.pick [6] (by decide) rfl rfl) 11 (fuel:=5) (listed':=(lb 15 2559)) _ rfl krf krf rfl (Yl.nilCheck rfl) trivial rfl ?_
    refine HeldK.firstS (fun _ hw=>hw.pick [6] (by decide) rfl rfl) 12 (fuel:=4) (listed':=(lb 15 6655)) _ rfl krf krf rfl (Yl.fieldAddr fd137_0 rfl) trivial rfl ?_
    refine HeldK.firstS (fun _ hw=>hw.pick [6] (by decide) rfl rfl) 13 (fuel:=3) (listed':=(lb 15 14847)) _ rfl krf krf rfl (Yl.fieldAddr fd135_1 rfl) trivial rfl ?_
    refine HeldK.two 9 14 (fuel:=2) (listed1:=(lb 15 15359)) (listed2:=(lb 15 31231)) krf rfl rfl krf krf ?_ ?_
    ·first | refine .v (.iN sl22 rfl rfl) ?_ | refine .v (.iK sl22 rfl rfl) ?_
     refine .nil ?_
     try (conv=>enter [2,2];simp only [nrm])
     refine HeldK.backS (fun _ hw=>hw.pick [6] (by decide) rfl rfl) ?_
     refine HeldK.two 10 14 (fuel:=1) (listed1:=(lb 15 16383)) (listed2:=(lb 15 31743)) krf rfl rfl krf krf ?_ ?_
     ·refine AK.storeG 1 rfl sz24 rfl rfl rfl rfl (one'_cons rfl (one'_cons rfl (one'_cons (IsSl.one ss) one'_nil))) (by omega) (cs':=xcs (q.ex++[e]) (es++[s])) (xcs_put heL e s _ rfl) trivial ?_
      refine .nil ?_
      try (conv=>enter [2,2];simp only [nrm])
      refine HeldK.backS (fun _ hw=>hw.pick [6] (by decide) rfl rfl) ?_
      refine HeldK.one 14 (fuel:=0) (listed':=(lb 15 32767)) krf rfl krf ?_
      refine AK.storeBox 0 (us:=[v2]) (cs':=[.int .i64 (q.L:Int),v2,vN,.int .i64 (q.dn:Int),.map (some mb)]) rfl sz22 rfl rfl (by rw [IsSl.cells sv2]) rfl oneP (leb rfl) rfl trivial ?_
      refine .nil ?_
      try (conv=>enter [2,2];simp only [nrm])
      refine HeldK.backS (fun _ hw=>hw.pick [6] (by decide) rfl rfl) ?_
      refine HeldK.done krf ?_
      exact hJ _ _ (v2) sv2 (slr) (fun w hw=>by first | exact hw.pickLe [0,1,2,3,4,5,6] (by decide) pkl)
     ·refine AK.storeBox 0 (us:=[v2]) (cs':=[.int .i64 (q.L:Int),v2,vN,.int .i64 (q.dn:Int),.map (some mb)]) rfl sz22 rfl rfl (by rw [IsSl.cells sv2]) rfl oneP (leb rfl) rfl trivial ?_
      refine .nil ?_
      try (conv=>enter [2,2];simp only [nrm])
      refine HeldK.backS (fun _ hw=>hw.pick [6] (by decide) rfl rfl) ?_
      refine HeldK.one 10 (fuel:=0) (listed':=(lb 15 32767)) krf rfl krf ?_
      refine AK.storeG 1 rfl sz24 rfl rfl rfl rfl (one'_cons rfl (one'_cons rfl (one'_cons (IsSl.one ss) one'_nil))) (by omega) (cs':=xcs (q.ex++[e]) (es++[s])) (xcs_put heL e s _ rfl) trivial ?_
      refine .nil ?_
      try (conv=>enter [2,2];simp only [nrm])
      refine HeldK.backS (fun _ hw=>hw.pick [6] (by decide) rfl rfl) ?_
      refine HeldK.done krf ?_
      exact hJ _ _ (v2) sv2 (slr) (fun w hw=>by first | exact hw.pickLe [0,1,2,3,4,5,6] (by decide) pkl)
    ·refine AK.storeBox 0 (us:=[v2]) (cs':=[.int .i64 (q.L:Int),v2,vN,.int .i64 (q.dn:Int),.map (some mb)]) rfl sz22 rfl rfl (by rw [IsSl.cells sv2]) rfl oneP (leb rfl) rfl trivial ?_
     refine .nil ?_
     try (conv=>enter [2,2];simp only [nrm])
     refine HeldK.backS (fun _ hw=>hw.pick [6] (by decide) rfl rfl) ?_
     refine HeldK.one 9 (fuel:=1) (listed':=(lb 15 31743)) krf rfl krf ?_
     first | refine .v (.iN sl22 rfl rfl) ?_ | refine .v (.iK sl22 rfl rfl) ?_
     refine .nil ?_
     try (conv=>enter [2,2];simp only [nrm])
     refine HeldK.backS (fun _ hw=>hw.pick [6] (by decide) rfl rfl) ?_
     refine HeldK.one 10 (fuel:=0) (listed':=(lb 15 32767)) krf rfl krf ?_
     refine AK.storeG 1 rfl sz24 rfl rfl rfl rfl (one'_cons rfl (one'_cons rfl (one'_cons (IsSl.one ss) one'_nil))) (by omega) (cs':=xcs (q.ex++[e]) (es++[s])) (xcs_put heL e s _ rfl) trivial ?_
     refine .nil ?_
     try (conv=>enter [2,2];simp only [nrm])
     refine HeldK.backS (fun _ hw=>hw.pick [6] (by decide) rfl rfl) ?_
     refine HeldK.done krf ?_
     exact hJ _ _ (v2) sv2 (slr) (fun w hw=>by first | exact hw.pickLe [0,1,2,3,4,5,6] (by decide) pkl)
   ·refine AK.lit (xs:=[.const (.agg #[.int .i64 0,.int .i64 0,.slice none 0 0])]) sl22 el24 rfl rfl rfl (by simp [Value.cells]) (by decide) (by decide) trivial rfl (fun lv=>?_)
    refine .nil ?_
    try (conv=>enter [2,2];simp only [nrm])
    refine HeldK.backS (fun _ hw=>hw.pick [6] (by decide) rfl rfl) ?_
    refine HeldK.one 6 (fuel:=7) (listed':=(lb 15 255)) krf rfl krf ?_
    refine .v (.lenR sl22 rfl rdp) (.nil ?_)
    try (conv=>enter [2,2];simp only [nrm])
    refine HeldK.backS (fun _ hw=>hw.pick [6] (by decide) rfl rfl) ?_
    refine HeldK.one 8 (fuel:=6) (listed':=(lb 15 511)) krf rfl krf ?_
    refine AK.appendS 1 rfl sl22 el24 rfl (by decide) rfl rfl rfl rdp (one'_cons rfl (one'_cons rfl (one'_cons rfl one'_nil))) (by omega) (by omega) trivial rfl (fun v2=>?_)
    refine AK.shape 1 rfl (fun sv2=>?_)
    refine .nil ?_
    try (conv=>enter [2,2];simp only [nrm])
    refine HeldK.backS (fun _ hw=>hw.pick [6] (by decide) rfl rfl) ?_
    refine HeldK.firstS (fun _ hw=>hw.pick [6] (by decide) rfl rfl) 11 (fuel:=5) (listed':=(lb 15 2559)) _ rfl krf krf rfl (Yl.nilCheck rfl) trivial rfl ?_
    refine HeldK.firstS (fun _ hw=>hw.pick [6] (by decide) rfl rfl) 12 (fuel:=4) (listed':=(lb 15 6655)) _ rfl krf krf rfl (Yl.fieldAddr fd137_0 rfl) trivial rfl ?_
    refine HeldK.firstS (fun _ hw=>hw.pick [6] (by decide) rfl rfl) 13 (fuel:=3) (listed':=(lb 15 14847)) _ rfl krf krf rfl (Yl.fieldAddr fd135_1 rfl) trivial rfl ?_
    refine HeldK.two 9 14 (fuel:=2) (listed1:=(lb 15 15359)) (listed2:=(lb 15 31231)) krf rfl rfl krf krf ?_ ?_
    ·first | refine .v (.iN sl22 rfl rfl) ?_ | refine .v (.iK sl22 rfl rfl) ?_
     refine .nil ?_
     try (conv=>enter [2,2];simp only [nrm])
     refine HeldK.backS (fun _ hw=>hw.pick [6] (by decide) rfl rfl) ?_
     refine HeldK.two 10 14 (fuel:=1) (listed1:=(lb 15 16383)) (listed2:=(lb 15 31743)) krf rfl rfl krf krf ?_ ?_
     ·refine AK.storeG 1 rfl sz24 rfl rfl rfl rfl (one'_cons rfl (one'_cons rfl (one'_cons (IsSl.one ss) one'_nil))) (by omega) (cs':=xcs (q.ex++[e]) (es++[s])) (xcs_put heL e s _ rfl) trivial ?_
      refine .nil ?_
      try (conv=>enter [2,2];simp only [nrm])
      refine HeldK.backS (fun _ hw=>hw.pick [6] (by decide) rfl rfl) ?_
      refine HeldK.one 14 (fuel:=0) (listed':=(lb 15 32767)) krf rfl krf ?_
      refine AK.storeBox 0 (us:=[v2]) (cs':=[.int .i64 (q.L:Int),v2,vN,.int .i64 (q.dn:Int),.map (some mb)]) rfl sz22 rfl rfl (by rw [IsSl.cells sv2]) rfl oneP (leb rfl) rfl trivial ?_
      refine .nil ?_
      try (conv=>enter [2,2];simp only [nrm])
      refine HeldK.backS (fun _ hw=>hw.pick [6] (by decide) rfl rfl) ?_
      refine HeldK.done krf ?_
      exact hJ _ _ (v2) sv2 (slr) (fun w hw=>by first | exact hw.pickLe [0,1,2,3,4,5,6] (by decide) pkl)
     ·refine AK.storeBox 0 (us:=[v2]) (cs':=[.int .i64 (q.L:Int),v2,vN,.int .i64 (q.dn:Int),.map (some mb)]) rfl sz22 rfl rfl (by rw [IsSl.cells sv2]) rfl oneP (leb rfl) rfl trivial ?_
      refine .nil ?_
      try (conv=>enter [2,2];simp only [nrm])
      refine HeldK.backS (fun _ hw=>hw.pick [6] (by decide) rfl rfl) ?_
      refine HeldK.one 10 (fuel:=0) (listed':=(lb 15 32767)) krf rfl krf ?_
      refine AK.storeG 1 rfl sz24 rfl rfl rfl rfl (one'_cons rfl (one'_cons rfl (one'_cons (IsSl.one ss) one'_nil))) (by omega) (cs':=xcs (q.ex++[e]) (es++[s])) (xcs_put heL e s _ rfl) trivial ?_
      refine .nil ?_
      try (conv=>enter [2,2];simp only [nrm])
      refine HeldK.backS (fun _ hw=>hw.pick [6] (by decide) rfl rfl) ?_
      refine HeldK.done krf ?_
      exact hJ _ _ (v2) sv2 (slr) (fun w hw=>by first | exact hw.pickLe [0,1,2,3,4,5,6] (by decide) pkl)
    ·refine AK.storeBox 0 (us:=[v2]) (cs':=[.int .i64 (q.L:Int),v2,vN,.int .i64 (q.dn:Int),.map (some mb)]) rfl sz22 rfl rfl (by rw [IsSl.cells sv2]) rfl oneP (leb rfl) rfl trivial ?_
     refine .nil ?_
     try (conv=>enter [2,2];simp only [nrm])
     refine HeldK.backS (fun _ hw=>hw.pick [6] (by decide) rfl rfl) ?_
     refine HeldK.one 9 (fuel:=1) (listed':=(lb 15 31743)) krf rfl krf ?_
     first | refine .v (.iN sl22 rfl rfl) ?_ | refine .v (.iK sl22 rfl rfl) ?_
     refine .nil ?_
     try (conv=>enter [2,2];simp only [nrm])
     refine HeldK.backS (fun _ hw=>hw.pick [6] (by decide) rfl rfl) ?_
     refine HeldK.one 10 (fuel:=0) (listed':=(lb 15 32767)) krf rfl krf ?_
     refine AK.storeG 1 rfl sz24 rfl rfl rfl rfl (one'_cons rfl (one'_cons rfl (one'_cons (IsSl.one ss) one'_nil))) (by omega) (cs':=xcs (q.ex++[e]) (es++[s])) (xcs_put heL e s _ rfl) trivial ?_
     refine .nil ?_
     try (conv=>enter [2,2];simp only [nrm])
     refine HeldK.backS (fun _ hw=>hw.pick [6] (by decide) rfl rfl) ?_
     refine HeldK.done krf ?_
     exact hJ _ _ (v2) sv2 (slr) (fun w hw=>by first | exact hw.pickLe [0,1,2,3,4,5,6] (by decide) pkl)
  ·refine AK.lit (xs:=[.const (.agg #[.int .i64 0,.int .i64 0,.slice none 0 0])]) sl22 el24 rfl rfl rfl (by simp [Value.cells]) (by decide) (by decide) trivial rfl (fun lv=>?_)
   refine .nil ?_
   try (conv=>enter [2,2];simp only [nrm])
   refine HeldK.backS (fun _ hw=>hw.pick [6] (by decide) rfl rfl) ?_
   refine HeldK.one 4 (fuel:=8) (listed':=(lb 15 191)) krf rfl krf ?_
   refine .v (.loadBox on22 rfl bsp rfl) (.nil ?_)
   try (conv=>enter [2,2];simp only [nrm])
   refine HeldK.backS (fun _ hw=>hw.pick [6] (by decide) rfl rfl) ?_
   refine HeldK.one 6 (fuel:=7) (listed':=(lb 15 255)) krf rfl krf ?_
   refine .v (.lenR sl22 rfl rdp) (.nil ?_)
   try (conv=>enter [2,2];simp only [nrm])
   refine HeldK.backS (fun _ hw=>hw.pick [6] (by decide) rfl rfl) ?_
   refine HeldK.one 8 (fuel:=6) (listed':=(lb 15 511)) krf rfl krf ?_
   refine AK.appendS 1 rfl sl22 el24 rfl (by decide) rfl rfl rfl rdp (one'_cons rfl (one'_cons rfl (one'_cons rfl one'_nil))) (by omega) (by omega) trivial rfl (fun v2=>?_)
   refine AK.shape 1 rfl (fun sv2=>?_)
   refine .nil ?_
   try (conv=>enter [2,2];simp only [nrm])
   refine HeldK.backS (fun _ hw=>hw.pick [6] (by decide) rfl rfl) ?_
   refine HeldK.firstS (fun _ hw=>hw.pick [6] (by decide) rfl rfl) 11 (fuel:=5) (listed':=(lb 15 2559)) _ rfl krf krf rfl (Yl.nilCheck rfl) trivial rfl ?_
   refine HeldK.firstS (fun _ hw=>hw.pick [6] (by decide) rfl rfl) 12 (fuel:=4) (listed':=(lb 15 6655)) _ rfl krf krf rfl (Yl.fieldAddr fd137_0 rfl) trivial rfl ?_
   refine HeldK.firstS (fun _ hw=>hw.pick [6] (by decide) rfl rfl) 13 (fuel:=3) (listed':=(lb 15 14847)) _ rfl krf krf rfl (Yl.fieldAddr fd135_1 rfl) trivial rfl ?_
   refine HeldK.two 9 14 (fuel:=2) (listed1:=(lb 15 15359)) (listed2:=(lb 15 31231)) krf rfl rfl krf krf ?_ ?_
   ·first | refine .v (.iN sl22 rfl rfl) ?_ | refine .v (.iK sl22 rfl rfl) ?_
    refine .nil ?_
    try (conv=>enter [2,2];simp only [nrm])
    refine HeldK.backS (fun _ hw=>hw.pick [6] (by decide) rfl rfl) ?_
    refine HeldK.two 10 14 (fuel:=1) (listed1:=(lb 15 16383)) (listed2:=(lb 15 31743)) krf rfl rfl krf krf ?_ ?_
    ·refine AK.storeG 1 rfl sz24 rfl rfl rfl rfl (one'_cons rfl (one'_cons rfl (one'_cons (IsSl.one ss) one'_nil))) (by omega) (cs':=xcs (q.ex++[e]) (es++[s])) (xcs_put heL e s _ rfl) trivial ?_
     refine .nil ?_
     try (conv=>enter [2,2];simp only [nrm])
     refine HeldK.backS (fun _ hw=>hw.pick [6] (by decide) rfl rfl) ?_
     refine HeldK.one 14 (fuel:=0) (listed':=(lb 15 32767)) krf rfl krf ?_
     refine AK.storeBox 0 (us:=[v2]) (cs':=[.int .i64 (q.L:Int),v2,vN,.int .i64 (q.dn:Int),.map (some mb)]) rfl sz22 rfl rfl (by rw [IsSl.cells sv2]) rfl oneP (leb rfl) rfl trivial ?_
     refine .nil ?_
     try (conv=>enter [2,2];simp only [nrm])
     refine HeldK.backS (fun _ hw=>hw.pick [6] (by decide) rfl rfl) ?_
     refine HeldK.done krf ?_
     exact hJ _ _ (v2) sv2 (slr) (fun w hw=>by first | exact hw.pickLe [0,1,2,3,4,5,6] (by decide) pkl)
    ·refine AK.storeBox 0 (us:=[v2]) (cs':=[.int .i64 (q.L:Int),v2,vN,.int .i64 (q.dn:Int),.map (some mb)]) rfl sz22 rfl rfl (by rw [IsSl.cells sv2]) rfl oneP (leb rfl) rfl trivial ?_
     refine .nil ?_
     try (conv=>enter [2,2];simp only [nrm])
     refine HeldK.backS (fun _ hw=>hw.pick [6] (by decide) rfl rfl) ?_
     refine HeldK.one 10 (fuel:=0) (listed':=(lb 15 32767)) krf rfl krf ?_
     refine AK.storeG 1 rfl sz24 rfl rfl rfl rfl (one'_cons rfl (one'_cons rfl (one'_cons (IsSl.one ss) one'_nil))) (by omega) (cs':=xcs (q.ex++[e]) (es++[s])) (xcs_put heL e s _ rfl) trivial ?_
     refine .nil ?_
     try (conv=>enter [2,2];simp only [nrm])
     refine HeldK.backS (fun _ hw=>hw.pick [6] (by decide) rfl rfl) ?_
     refine HeldK.done krf ?_
     exact hJ _ _ (v2) sv2 (slr) (fun w hw=>by first | exact hw.pickLe [0,1,2,3,4,5,6] (by decide) pkl)
   ·refine AK.storeBox 0 (us:=[v2]) (cs':=[.int .i64 (q.L:Int),v2,vN,.int .i64 (q.dn:Int),.map (some mb)]) rfl sz22 rfl rfl (by rw [IsSl.cells sv2]) rfl oneP (leb rfl) rfl trivial ?_
    refine .nil ?_
    try (conv=>enter [2,2];simp only [nrm])
    refine HeldK.backS (fun _ hw=>hw.pick [6] (by decide) rfl rfl) ?_
    refine HeldK.one 9 (fuel:=1) (listed':=(lb 15 31743)) krf rfl krf ?_
    first | refine .v (.iN sl22 rfl rfl) ?_ | refine .v (.iK sl22 rfl rfl) ?_
    refine .nil ?_
    try (conv=>enter [2,2];simp only [nrm])
    refine HeldK.backS (fun _ hw=>hw.pick [6] (by decide) rfl rfl) ?_
    refine HeldK.one 10 (fuel:=0) (listed':=(lb 15 32767)) krf rfl krf ?_
    refine AK.storeG 1 rfl sz24 rfl rfl rfl rfl (one'_cons rfl (one'_cons rfl (one'_cons (IsSl.one ss) one'_nil))) (by omega) (cs':=xcs (q.ex++[e]) (es++[s])) (xcs_put heL e s _ rfl) trivial ?_
    refine .nil ?_
    try (conv=>enter [2,2];simp only [nrm])
    refine HeldK.backS (fun _ hw=>hw.pick [6] (by decide) rfl rfl) ?_
    refine HeldK.done krf ?_
    exact hJ _ _ (v2) sv2 (slr) (fun w hw=>by first | exact hw.pickLe [0,1,2,3,4,5,6] (by decide) pkl)
 ·skip
  refine AK.then_ (hK4 _ ?_)
  refine .sr fun _ hK5=>?_
  refine .mv rfl (.as rfl (.nt hK5 (.ret ?_)))
  refine AK.ret1 rfl rfl (fun w hw=>⟨_,_,_,?_,rfl,Ret.ofBig0 (hw.pick [0,1,2,3,4,5] (by decide) rfl rfl)⟩)
  refine ⟨rfl,rfl,z,es++[s],hq.add ha2 hlt hm ss hg,?_⟩
  simp only [runO,List.length_append,List.length_singleton]
  rfl
set_option maxHeartbeats 400000 in
theorem s_rfin (w:World) (rb mb:Nat) (vE vN:Value) (es:List Value) (q:Run) (hb:BxA w rb [.int .i64 (q.L:Int),vE,vN,.int .i64 (q.dn:Int),.map (some mb)]) (hr:Rd (fun b=>¬ (fun _=>False) b) w vE 3 q.ex.length (xcs q.ex es)):CallS Tryz.prog 46 [.pointer (some ⟨rb,0,none⟩)] w (fun r o=>r = .bool (decide (q.dn=q.ex.length))∧o=[]):=by
 have hbx:BoxS ⟨Tryz.prog,Tryz.f46.ntmps,w,fun _=>False⟩ [] rb [.int .i64 (q.L:Int),vE,vN,.int .i64 (q.dn:Int),.map (some mb)]:=BoxS.arg hb
 refine spec_of Tryz.func46 rfl (leb rfl) ?_
 refine .sr fun _ hK1=>?_
 refine .as rfl (.nt hK1 ?_)
 refine .seq fun _ hK2=>?_
 refine AK.quiet mixed krf ?_
 refine .mv rfl (.v (.nilCheck rfl) (.v (.fieldAddr fd137_0 rfl) (.v (.fieldAddr fd135_3 rfl) (.v (.loadBox on3 rfl bsp rfl) (.mv rfl (.v (.nilCheck rfl) (.v (.fieldAddr fd137_0 rfl) ?_)))))))
 refine .v (.fieldAddr fd135_1 rfl) (.v (.loadBox on22 rfl bsp rfl) (.v (.lenR sl22 rfl rdp) (.v (.eql rfl rfl) (.as rfl ?_))))
 refine QK.nil (QK.fin ?_)
 refine AK.then_ (hK2 _ ?_)
 refine .ret ?_
 refine AK.ret1 rfl rfl (fun w hw=>⟨_,_,?_,rfl,Ret.of (hw.pick [] (by decide) rfl rfl)⟩)
 refine ⟨congrArg Value.bool ?_,rfl⟩
 exact decide_eq_decide.2 (by omega)
set_option maxHeartbeats 1000000 in
theorem s_begin (w:World) (F:Nat→Prop) (B:Bs) (l:List Itm) (hB:BsOk B w F) (hA:(forest B l).holds w F) (e:Ex) (s:Value) (hm:Itm.deep s e.kids∈l) (ss:IsSl s) (L:Nat) (hL:L≤6) (q2:Run) (ha:addR ⟨L,[],[],0,[]⟩ e=some q2):CallM Tryz.prog 44 [.agg #[.int .i64 e.op,.int .i64 e.lt,s],.int .i64 (L:Int)] w F (fun r A o=>∃ rb mb vE es,r = .pointer (some ⟨rb,0,none⟩)∧RunF vE nilV es [] q2 l∧A=bigA (runO 137 24 67 3 rb mb vE nilV es [] q2 B l)∧o=[]):=by
 refine specM_of Tryz.func44 rfl (leb rfl) hA ?_
 refine .sr fun _ hK1=>?_
 refine AK.box_ (E:=24) (cs:=[.int .i64 e.op,.int .i64 e.lt,s]) rfl rfl rfl trivial rfl (fun bx2=>?_)
 refine .as rfl (.nt hK1 ?_)
 refine .sr fun _ hK2=>?_
 refine AK.makeMap trivial rfl (fun mb=>?_)
 refine .v (.build (parts:=[(1,.tmp 6)]) (cs:=#[.int .i64 0,.slice none 0 0,.slice none 0 0,.int .i64 0,.map (some mb)]) rfl (by kernel_rfl)) ?_
 refine AK.box_ (E:=137) (cs:=[.int .i64 0,nilV,nilV,.int .i64 0,.map (some mb)]) rfl rfl rfl trivial rfl (fun rb=>?_)
 refine .as rfl (.nt hK2 ?_)
 refine .sr fun _ hK3=>?_
 refine .mv rfl (.mv rfl (.v (.nilCheck rfl) (.v (.fieldAddr fd137_0 rfl) (.v (.fieldAddr fd135_0 rfl) ?_))))
 refine AK.storeBox 3 (us:=[.int .i64 (L:Int)]) (cs':=[.int .i64 (L:Int),nilV,nilV,.int .i64 0,.map (some mb)]) rfl sz3 rfl rfl rfl rfl oneP (leb rfl) rfl trivial ?_
 refine .nt hK3 ?_
 refine .sr fun _ hK4=>?_
 refine .mv rfl (.v (.loadBoxG ag24 rfl bsp rfl rfl) ?_)
 refine AK.ghost 24 3 ?_
 refine AK.ghost 67 1 ?_
 refine AK.own' _ (fun w hw=>HW.ghostG (f:=Value.int .i64) 3 hw) ?_
 refine AK.own' [bigA (runO 137 24 67 3 rb mb nilV nilV [] [] ⟨L,[],[],0,[]⟩ B l)] (fun w hw=>by have h:=HW.unflat (l:=[_,_,_,_,_,_]) (own:=[]) (hw.pick [3,4,5,6,2,0] (by decide) rfl rfl);exact h) ?_
 refine AK.callN 0 rfl co99 rfl (fun w Fs hw hh hfr hal=>s_radd w (Fs 0) B l (hB.later hfr hal 0) rb mb nilV nilV [] [] ⟨L,[],[],0,[]⟩ ⟨rfl,Got.nil _ _,rfl,nilSl,nilSl,by simp,by simp,rfl,hL⟩ (hh.at_ 0 _ rfl) e s hm ss q2 ha (by simp)) trivial rfl ?_
 rintro r A o ⟨rfl,rfl,v2,es2,hq2,rfl⟩
 refine .nt hK4 ?_
 refine .sr fun _ hK5=>?_
 refine .mv rfl (.as rfl (.nt hK5 (.ret ?_)))
 refine AK.ret1 rfl rfl (fun w hw=>⟨_,_,_,?_,rfl,Ret.of (hw.pick [0] (by decide) rfl rfl)⟩)
 exact ⟨rb,mb,v2,es2,rfl,hq2,rfl,rfl⟩
end Go.Proofs.YtbibnpdnmmgacaaGreatDoor
namespace Go.Proofs.YtbibnpdnmmgacaaGreatDoor
open Go.Sx Go.RowKit
set_option maxHeartbeats 4000000 in
theorem s_rproc (w:World) (F:Nat→Prop) (B:Bs) (l:List Itm) (hB:BsOk B w F) (rb mb:Nat) (vE vN:Value) (es rs:List Value) (q:Run) (hq:RunF vE vN es rs q l) (hA:(bigA (runO 137 24 67 3 rb mb vE vN es rs q B l)).holds w F) (hdn:q.dn<q.ex.length) (res:Run × Int) (hp:procR q=some res):CallM Tryz.prog 47 [.pointer (some ⟨rb,0,none⟩)] w F (fun r A o=>r = .int .i64 res.2∧o=[]∧(res.2=0→∃ vE2 vN2 es2 rs2 l2,RunF vE2 vN2 es2 rs2 res.1 l2∧A=bigA (runO 137 24 67 3 rb mb vE2 vN2 es2 rs2 res.1 B l2))):=by
 obtain ⟨f,hf,hres⟩:=procR_some hp
 have hLb:=hq.Lb
 unfold runO at hA
 refine specM_of' Tryz.func47 rfl (leb rfl) hA ?_
 refine .sr fun _ hK1=>?_
 refine .as rfl (.nt hK1 ?_)
 refine .sr fun _ hK2=>?_
 refine .mv rfl (.v (.nilCheck rfl) (.v (.fieldAddr fd137_0 rfl) (.v (.fieldAddr fd135_0 rfl) (.v (.loadBox on3 rfl bsp rfl) ?_))))
 refine AK.make1 sl67 el3 rfl rfl rfl (by omega) (by omega) trivial rfl (fun mv0=>?_)
 refine AK.shape 6 rfl (fun smv=>?_)
 refine .as rfl (.nt hK2 ?_)
 refine .seq fun _ hK3=>?_
 refine .sr fun _ hK4=>?_
 refine .mv rfl (.v (.lenR sl67 rfl rdp) (.mv rfl (.nt hK4 (.block ?_))))
 refine AK.loopK (X:=List Int × Run × Value × List Value × List Itm) [(0,_),(3,_),(16,_)] (fun x=>[(17,.int .i64 (x.1.length:Int))]) (fun x=>[box rb 137 5 [.int .i64 (x.2.1.L:Int),x.2.2.1,vN,.int .i64 (x.2.1.dn:Int),.map (some mb)],row x.2.2.1 24 3 x.2.1.ex.length (xcs x.2.1.ex x.2.2.2.1),row vN 67 1 x.2.1.nx.length rs,bigA (matG (Value.int .i64) 3 rs x.2.1.nx),mapA mb (mkv sv (Value.int .i64) x.2.1.num),forest B x.2.2.2.2,row mv0 3 1 q.L ((x.1++List.replicate (q.L - x.1.length) 0).map (Value.int .i64))]) (fun x=>x.1.length≤q.L∧RunF x.2.2.1 vN x.2.2.2.1 rs x.2.1 x.2.2.2.2∧rowR (q.L - x.1.length) x.1.length x.2.1 x.1=some f∧x.2.1.L=q.L∧x.2.1.nx=q.nx∧x.2.1.dn=q.dn∧q.dn<x.2.1.ex.length) (fun x=>q.L - x.1.length) (([],q,vE,es,l)) slr ?_ ?_ ?_ ?_
 ·exact ⟨Nat.zero_le _,hq,hf,rfl,rfl,rfl,hdn⟩
 ·exact slr
 ·exact fun w hw=>by simpa using hw
 ·intro x hg0 _ hK5
  refine .sr fun _ hK6=>?_
  refine .v (.lss rfl rfl) (.nt hK6 ?_)
  refine .seq fun _ hK7=>?_
  refine AK.condD rfl (fun hc0=>?_) (fun hc0=>?_)
  ·have hkl:x.1.length<q.L:=by omega
   obtain ⟨m,hm⟩:∃ m,q.L - x.1.length=m+1:=⟨q.L - x.1.length - 1,by omega⟩
   have hm2:q.L - (x.1.length+1)=m:=by omega
   have hrow:=hg0.2.2.1
   rw [hm] at hrow
   obtain ⟨p,hpl,hcases⟩:=rowR_succ hrow
   have hRF:=hg0.2.1
   have heL:=hRF.eL
   have hdd:x.2.1.dn<x.2.1.ex.length:=by have a:=hg0.2.2.2.2.2.1;have b:=hg0.2.2.2.2.2.2;omega
   have hle:=hRF.le
   refine .skip ?_
   refine AK.then_ (hK7 _ ?_)
   refine .seq fun _ hK8=>?_
   refine .block ?_
   refine .sr fun _ hK9=>?_
   refine .mv rfl (.as rfl (.nt hK9 ?_))
   refine .seq fun _ hK10=>?_
   refine AK.joinK (X:=Value × List Itm × Nat) [(0,_),(3,_),(4,_),(16,_),(17,_)] (fun z=>[(5,.pointer (some ⟨z.2.2,0,none⟩)),(6,.int .i64 p.2)]) (fun z=>[box rb 137 5 [.int .i64 (x.2.1.L:Int),x.2.2.1,vN,.int .i64 (x.2.1.dn:Int),.map (some mb)],row x.2.2.1 24 3 x.2.1.ex.length (xcs x.2.1.ex x.2.2.2.1),row vN 67 1 x.2.1.nx.length rs,bigA (matG (Value.int .i64) 3 rs x.2.1.nx),mapA mb (mkv sv (Value.int .i64) x.2.1.num),forest B z.2.1,row mv0 3 1 q.L ((x.1++List.replicate (q.L - x.1.length) 0).map (Value.int .i64)),box z.2.2 24 3 [.int .i64 p.1.op,.int .i64 p.1.lt,z.1]]) (fun z=>IsSl z.1∧(∀ y∈x.2.2.2.2,y∈z.2.1)∧Itm.deep z.1 p.1.kids∈z.2.1) slr (fun _ hJ=>?_) (fun z hg=>?_)
   ·try (conv=>enter [2,2];simp only [nrm])
    refine AK.heldS _ 20 (fun _ hw=>hw.pick [0,1] (by decide) rfl rfl) mixed ?_
    refine HeldK.firstS (fun _ hw=>hw.pick [0,1] (by decide) rfl rfl) 0 (fuel:=19) (listed':=(lb 20 1)) _ rfl krf krf rfl (Yl.move rfl) trivial rfl ?_
    refine HeldK.firstS (fun _ hw=>hw.pick [0,1] (by decide) rfl rfl) 1 (fuel:=18) (listed':=(lb 20 3)) _ rfl krf krf rfl (Yl.nilCheck rfl) trivial rfl ?_
    refine HeldK.firstS (fun _ hw=>hw.pick [0,1] (by decide) rfl rfl) 2 (fuel:=17) (listed':=(lb 20 7)) _ rfl krf krf rfl (Yl.fieldAddr fd137_0 rfl) trivial rfl ?_
    refine HeldK.firstS (fun _ hw=>hw.pick [0,1] (by decide) rfl rfl) 3 (fuel:=16) (listed':=(lb 20 15)) _ rfl krf krf rfl (Yl.fieldAddr fd135_1 rfl) trivial rfl ?_
    refine HeldK.firstS (fun _ hw=>hw.pick [0,1] (by decide) rfl rfl) 4 (fuel:=15) (listed':=(lb 20 31)) _ rfl krf krf rfl (Yl.loadBox on22 rfl bsp rfl) trivial rfl ?_
    refine HeldK.firstS (fun _ hw=>hw.pick [0,1] (by decide) rfl rfl) 5 (fuel:=14) (listed':=(lb 20 63)) _ rfl krf krf rfl (Yl.move rfl) trivial rfl ?_
    refine HeldK.firstS (fun _ hw=>hw.pick [0,1] (by decide) rfl rfl) 6 (fuel:=13) (listed':=(lb 20 127)) _ rfl krf krf rfl (Yl.nilCheck rfl) trivial rfl ?_
    refine HeldK.firstS (fun _ hw=>hw.pick [0,1] (by decide) rfl rfl) 7 (fuel:=12) (listed':=(lb 20 255)) _ rfl krf krf rfl (Yl.fieldAddr fd137_0 rfl) trivial rfl ?_
    refine HeldK.firstS (fun _ hw=>hw.pick [0,1] (by decide) rfl rfl) 8 (fuel:=11) (listed':=(lb 20 511)) _ rfl krf krf rfl (Yl.fieldAddr fd135_3 rfl) trivial rfl ?_
    refine HeldK.firstS (fun _ hw=>hw.pick [0,1] (by decide) rfl rfl) 9 (fuel:=10) (listed':=(lb 20 1023)) _ rfl krf krf rfl (Yl.loadBox on3 rfl bsp rfl) trivial rfl ?_
    first | refine HeldK.firstS (fun _ hw=>hw.pick [0,1] (by decide) rfl rfl) 10 (fuel:=9) (listed':=(lb 20 2047)) _ rfl krf krf rfl (.iN sl22 rfl rfl) trivial rfl ?_ | refine HeldK.firstS (fun _ hw=>hw.pick [0,1] (by decide) rfl rfl) 10 (fuel:=9) (listed':=(lb 20 2047)) _ rfl krf krf rfl (.iK sl22 rfl rfl) trivial rfl ?_
    refine HeldK.firstS (fun _ hw=>hw.pick [0,1] (by decide) rfl rfl) 11 (fuel:=8) (listed':=(lb 20 4095)) _ rfl krf krf rfl (Yl.loadE ag24 rfl rdp heL rfl (by omega)) trivial rfl ?_
    refine HeldK.firstS (fun _ hw=>hw.pick [0,1] (by decide) rfl rfl) 12 (fuel:=7) (listed':=(lb 20 8191)) _ rfl krf krf rfl (Yl.move rfl) trivial rfl ?_
    refine HeldK.two 13 17 (fuel:=6) (listed1:=(lb 20 16383)) (listed2:=(lb 20 139263)) krf rfl rfl krf krf ?_ ?_
    ·refine AK.callN 5 rfl co49 rfl (fun w Fs hw hh hfr hal=>s_byletter (x.1.length:Int) _ w (Fs 5) B x.2.2.2.2 (hB.later hfr hal 5) (hh.at_ 5 _ rfl) _ (hRF.g.d _ (by omega)) p hpl) trivial rfl ?_
     rintro r A o ⟨sp,l2,rfl,ssp,rfl,hs2,hm2',rfl⟩
     refine .nil ?_
     try (conv=>enter [2,2];simp only [nrm])
     refine HeldK.backS (fun _ hw=>hw.pick [0,1] (by decide) rfl rfl) ?_
     refine HeldK.firstS (fun _ hw=>hw.pick [0,1] (by decide) rfl rfl) 14 (fuel:=5) (listed':=(lb 20 32767)) _ rfl krf krf rfl (Yl.move rfl) trivial rfl ?_
     refine HeldK.firstS (fun _ hw=>hw.pick [0,1] (by decide) rfl rfl) 15 (fuel:=4) (listed':=(lb 20 65535)) _ rfl krf krf rfl (Yl.extract rfl rfl) trivial rfl ?_
     refine HeldK.firstS (fun _ hw=>hw.pick [0,1] (by decide) rfl rfl) 16 (fuel:=3) (listed':=(lb 20 131071)) _ rfl krf krf rfl (Yl.extract rfl rfl) trivial rfl ?_
     refine HeldK.one 17 (fuel:=2) (listed':=(lb 20 262143)) krf rfl krf ?_
     refine AK.alloc el24 rfl rfl trivial rfl (fun bx5=>?_)
     refine .nil ?_
     try (conv=>enter [2,2];simp only [nrm])
     refine HeldK.backS (fun _ hw=>hw.pick [0,1] (by decide) rfl rfl) ?_
     refine HeldK.one 18 (fuel:=1) (listed':=(lb 20 524287)) krf rfl krf ?_
     refine AK.storeBox 7 (us:=[.int .i64 p.1.op,.int .i64 p.1.lt,sp]) (cs':=[.int .i64 p.1.op,.int .i64 p.1.lt,sp]) rfl sz24 rfl rfl rfl rfl oneP (leb rfl) rfl trivial ?_
     refine .nil ?_
     try (conv=>enter [2,2];simp only [nrm])
     refine HeldK.backS (fun _ hw=>hw.pick [0,1] (by decide) rfl rfl) ?_
     refine HeldK.firstS (fun _ hw=>hw.pick [0,1] (by decide) rfl rfl) 19 (fuel:=0) (listed':=(lb 20 1048575)) _ rfl krf krf rfl (Yl.assign rfl) trivial rfl ?_
     refine HeldK.done krf ?_
     exact hJ _ _ ((sp,l2,bx5)) ⟨ssp,hs2,hm2'⟩ (slr) (fun w hw=>by first | exact hw.pickLe [0,1,2,3,4,5,6,7] (by decide) pkl)
    ·refine AK.alloc el24 rfl rfl trivial rfl (fun bx5=>?_)
     refine .nil ?_
     try (conv=>enter [2,2];simp only [nrm])
     refine HeldK.backS (fun _ hw=>hw.pick [0,1] (by decide) rfl rfl) ?_
     refine HeldK.one 13 (fuel:=5) (listed':=(lb 20 147455)) krf rfl krf ?_
     refine AK.callN 5 rfl co49 rfl (fun w Fs hw hh hfr hal=>s_byletter (x.1.length:Int) _ w (Fs 5) B x.2.2.2.2 (hB.later hfr hal 5) (hh.at_ 5 _ rfl) _ (hRF.g.d _ (by omega)) p hpl) trivial rfl ?_
     rintro r A o ⟨sp,l2,rfl,ssp,rfl,hs2,hm2',rfl⟩
     refine .nil ?_
     try (conv=>enter [2,2];simp only [nrm])
     refine HeldK.backS (fun _ hw=>hw.pick [0,1] (by decide) rfl rfl) ?_
     refine HeldK.firstS (fun _ hw=>hw.pick [0,1] (by decide) rfl rfl) 14 (fuel:=4) (listed':=(lb 20 163839)) _ rfl krf krf rfl (Yl.move rfl) trivial rfl ?_
     refine HeldK.firstS (fun _ hw=>hw.pick [0,1] (by decide) rfl rfl) 15 (fuel:=3) (listed':=(lb 20 196607)) _ rfl krf krf rfl (Yl.extract rfl rfl) trivial rfl ?_
     refine HeldK.firstS (fun _ hw=>hw.pick [0,1] (by decide) rfl rfl) 16 (fuel:=2) (listed':=(lb 20 262143)) _ rfl krf krf rfl (Yl.extract rfl rfl) trivial rfl ?_
     refine HeldK.one 18 (fuel:=1) (listed':=(lb 20 524287)) krf rfl krf ?_
     refine AK.storeBox 7 (us:=[.int .i64 p.1.op,.int .i64 p.1.lt,sp]) (cs':=[.int .i64 p.1.op,.int .i64 p.1.lt,sp]) rfl sz24 rfl rfl rfl rfl oneP (leb rfl) rfl trivial ?_
     refine .nil ?_
     try (conv=>enter [2,2];simp only [nrm])
     refine HeldK.backS (fun _ hw=>hw.pick [0,1] (by decide) rfl rfl) ?_
     refine HeldK.firstS (fun _ hw=>hw.pick [0,1] (by decide) rfl rfl) 19 (fuel:=0) (listed':=(lb 20 1048575)) _ rfl krf krf rfl (Yl.assign rfl) trivial rfl ?_
     refine HeldK.done krf ?_
     exact hJ _ _ ((sp,l2,bx5)) ⟨ssp,hs2,hm2'⟩ (slr) (fun w hw=>by first | exact hw.pickLe [0,1,2,3,4,5,6,7] (by decide) pkl)
   ·have sz:=hg.1
    refine AK.then_ (hK10 _ ?_)
    refine .seq fun _ hK11=>?_
    refine .sr fun _ hK12=>?_
    refine .mv rfl (.v (.neq rfl rfl) (.nt hK12 ?_))
    refine AK.condNe rfl (fun hc1=>?_) (fun hc1=>?_)
    ·refine .sr fun _ hK13=>?_
     refine .mv rfl (.as rfl (.nt hK13 (.ret (.then_ret (.block_ret (.then_ret (.then_ret (.block_ret (.then_ret ?_)))))))))
     refine AK.ret1 rfl rfl (fun w hw=>⟨_,_,_,?_,rfl,Ret.ofBig0 (hw.pick [0] (by decide) rfl rfl)⟩)
     have hf2:f=(x.2.1,x.1,p.2):=by
      rcases hcases with ⟨_,h⟩ | ⟨h,_⟩
      ·exact h
      ·exact absurd h (by omega)
     subst hf2
     have eres:res=(x.2.1,p.2):=by rw [hres];exact if_pos hc1
     subst eres
     exact ⟨rfl,rfl,fun h=>absurd h hc1⟩
    ·obtain ⟨_,t,ht,hcases⟩:=hcases.resolve_left (fun h=>h.1 (by omega))
     refine .skip ?_
     refine AK.then_ (hK11 _ ?_)
     refine .seq fun _ hK14=>?_
     refine AK.quiet mixed krf ?_
     refine .mv rfl (.v (.nilCheck rfl) (.v (.fieldAddr fd137_1 rfl) (.v (.loadBox on133 rfl bsp rfl) (.v (.loadBoxG ag24 rfl bsp rfl rfl) ?_))))
     refine QK.call (sv t) co101 rfl (fun w hw=>s_format w p.1 z.1 (hw.kidR hB 5 rfl hg.2.2) t ht) (fun r o h=>h.1) trivial rfl ?_
     refine .v (.lookup2I mp133 (keyStrT un9) el3 rfl rfl msp) (.mv rfl (.v (.extract rfl rfl) (.v (.extract rfl rfl) (.as rfl (.as rfl ?_)))))
     refine QK.nil (QK.fin ?_)
     refine AK.then_ (hK14 _ ?_)
     refine .seq fun _ hK15=>?_
     refine .sr fun _ hK16=>?_
     refine .mv rfl (.v (.not rfl) (.nt hK16 ?_))
     refine AK.condB rfl (fun hc2=>?_) (fun hc2=>?_)
     ·have hno:mget x.2.1.num t=none:=by cases h:mget x.2.1.num t with | none=>rfl | some i=>rw [h] at hc2;cases hc2
      replace hcases:=(hcases.resolve_left (fun h=>by obtain ⟨i,h,_⟩:=h;rw [hno] at h;cases h)).2
      refine .seq fun _ hK17=>?_
      refine .sr fun _ hK18=>?_
      refine .mv rfl (.v (.nilCheck rfl) (.v (.fieldAddr fd137_0 rfl) (.v (.fieldAddr fd135_1 rfl) (.v (.loadBox on22 rfl bsp rfl) (.v (.lenR sl22 rfl rdp) (.v (.eql rfl rfl) (.nt hK18 ?_)))))))
      refine AK.condD rfl (fun hc3=>?_) (fun hc3=>?_)
      ·have hf2:f=(x.2.1,x.1,3):=by
        rcases hcases with ⟨_,h⟩ | ⟨h,_⟩
        ·exact h
        ·exact absurd (by omega) h
       refine .sr fun _ hK19=>?_
       refine .as rfl (.nt hK19 (.ret (.then_ret (.then_ret (.block_ret (.then_ret (.then_ret (.block_ret (.then_ret ?_)))))))))
       refine AK.ret1 rfl rfl (fun w hw=>⟨_,_,_,?_,rfl,Ret.ofBig0 (hw.pick [0] (by decide) rfl rfl)⟩)
       subst hf2
       have eres:res=(x.2.1,3):=by rw [hres];rfl
       subst eres
       exact ⟨rfl,rfl,fun h=>by cases h⟩
      ·obtain ⟨r2,hr2,hrow2⟩:∃ r2,addR x.2.1 p.1=some r2∧rowR m (x.1.length+1) r2 (x.1++[(x.2.1.ex.length:Int)])=some f:=by
        rcases hcases with ⟨h,_⟩ | ⟨_,h⟩
        ·exact absurd (by omega) hc3
        ·exact h
       obtain ⟨k1,k2,k3,k4⟩:=addR_keeps hr2
       refine .skip ?_
       refine AK.then_ (hK17 _ ?_)
       refine AK.region ?_
       refine .mv rfl (.v (.loadBoxG ag24 rfl bsp rfl rfl) ?_)
       refine AK.own' [bigA (runO 137 24 67 3 rb mb x.2.2.1 vN x.2.2.2.1 rs x.2.1 B z.2.1),row mv0 3 1 q.L ((x.1++List.replicate (q.L - x.1.length) 0).map (Value.int .i64)),box z.2.2 24 3 [.int .i64 p.1.op,.int .i64 p.1.lt,z.1]] (fun w hw=>by have h:=HW.unflat (l:=[_,_,_,_,_,_]) (own:=[_,_]) (hw.pick [0,1,2,3,4,5,6,7] (by decide) rfl rfl);exact h) ?_
       refine AK.callN 0 rfl co99 rfl (fun w Fs hw hh hfr hal=>s_radd w (Fs 0) B z.2.1 (hB.later hfr hal 0) rb mb x.2.2.1 vN x.2.2.2.1 rs x.2.1 (hRF.later hg.2.1) (hh.at_ 0 _ rfl) p.1 z.1 hg.2.2 sz r2 hr2 (by omega)) trivial rfl ?_
       rintro r A o ⟨rfl,rfl,v2,es2,hq2,rfl⟩
       refine AK.own' [box rb 137 5 [.int .i64 (r2.L:Int),v2,vN,.int .i64 (r2.dn:Int),.map (some mb)],row v2 24 3 r2.ex.length (xcs r2.ex es2),row vN 67 1 r2.nx.length rs,bigA (matG (Value.int .i64) 3 rs r2.nx),mapA mb (mkv sv (Value.int .i64) r2.num),forest B z.2.1,row mv0 3 1 q.L ((x.1++List.replicate (q.L - x.1.length) 0).map (Value.int .i64)),box z.2.2 24 3 [.int .i64 p.1.op,.int .i64 p.1.lt,z.1]] (fun w hw=>by have h:=HW.flat (l:=runO 137 24 67 3 rb mb v2 vN es2 rs r2 B z.2.1) (own:=[_,_]) hw;exact h) ?_
       refine .as rfl (.nt hK15 ?_)
       refine AK.region ?_
       refine .mv rfl (.mv rfl (.mv rfl ?_))
       first | refine .v (.iN sl67 rfl rfl) ?_ | refine .v (.iK sl67 rfl rfl) ?_
       refine AK.store1e 6 rfl sz3 rfl rfl rfl rfl (by omega) (cs':=(((x.1++[(x.2.1.ex.length:Int)])++List.replicate (q.L - (x.1++[(x.2.1.ex.length:Int)]).length) 0).map (Value.int .i64))) ((by have h:=fill_set (Value.int .i64) x.1 0 (x.2.1.ex.length:Int) q.L x.1.length rfl hkl;simpa using h)) trivial ?_
       refine .nil (.block_normal ?_)
       refine AK.then_ (hK8 _ ?_)
       refine AK.region ?_
       refine .v (.add rfl rfl (by omega)) ?_
       refine .mv rfl (.nil ?_)
       refine AK.then_ (hK5 _ _ ((x.1++[(x.2.1.ex.length:Int)],r2,v2,es2,z.2.1)) ⟨by simp;omega,hq2,by simpa [hm2] using hrow2,k1.trans hg0.2.2.2.1,k2.trans hg0.2.2.2.2.1,k3.trans hg0.2.2.2.2.2.1,by rw [k4];simp;omega⟩ (by simp;omega) (.cons (slI rfl (by simp)) (slr)) (fun w hw=>by have h:=hw.pick [0,1,2,3,4,5,6] (by decide) rfl rfl;simpa using h))
     ·obtain ⟨i,hi,hrow2⟩:∃ i,mget x.2.1.num t=some i∧rowR m (x.1.length+1) x.2.1 (x.1++[i])=some f:=by
       rcases hcases with h | ⟨h,_⟩
       ·exact h
       ·rw [h] at hc2;cases hc2
      have hgi:(mget x.2.1.num t).getD 0=i:=by rw [hi];rfl
      rw [hgi]
      refine .skip ?_
      refine AK.then_ (hK15 _ ?_)
      refine AK.region ?_
      refine .mv rfl (.mv rfl (.mv rfl ?_))
      first | refine .v (.iN sl67 rfl rfl) ?_ | refine .v (.iK sl67 rfl rfl) ?_
      refine AK.store1e 6 rfl sz3 rfl rfl rfl rfl (by omega) (cs':=(((x.1++[i])++List.replicate (q.L - (x.1++[i]).length) 0).map (Value.int .i64))) ((by have h:=fill_set (Value.int .i64) x.1 0 i q.L x.1.length rfl hkl;simpa using h)) trivial ?_
      refine .nil (.block_normal ?_)
      refine AK.then_ (hK8 _ ?_)
      refine AK.region ?_
      refine .v (.add rfl rfl (by omega)) ?_
      refine .mv rfl (.nil ?_)
      refine AK.then_ (hK5 _ _ ((x.1++[i],x.2.1,x.2.2.1,x.2.2.2.1,z.2.1)) ⟨by simp;omega,hg0.2.1.later hg.2.1,by simpa [hm2] using hrow2,hg0.2.2.2.1,hg0.2.2.2.2.1,hg0.2.2.2.2.2.1,hg0.2.2.2.2.2.2⟩ (by simp;omega) (.cons (slI rfl (by simp)) (slr)) (fun w hw=>by have h:=hw.pick [0,1,2,3,4,5,6] (by decide) rfl rfl;simpa using h))
  ·have hkL:x.1.length=q.L:=by omega
   have hrow:=hg0.2.2.1
   rw [hkL,Nat.sub_self,rowR] at hrow
   obtain rfl:(x.2.1,x.1,0)=f:=Option.some.inj hrow
   have hnl:=hg0.2.1.nl
   have hle2:=hg0.2.1.le
   have hdd:x.2.1.dn<x.2.1.ex.length:=by have a:=hg0.2.2.2.2.2.1;have b:=hg0.2.2.2.2.2.2;omega
   refine .exit (.then_exit (.then_exit (.block_exit ?_)))
   refine AK.then_ (hK3 _ ?_)
   refine .sr fun _ hK20=>?_
   refine .mv rfl (.mv rfl (.v (.nilCheck rfl) (.v (.fieldAddr fd137_0 rfl) (.v (.fieldAddr fd135_2 rfl) (.v (.loadBox on30 rfl bsp rfl) (.mv rfl ?_))))))
   refine AK.append1 2 rfl sl30 el67 rfl (by decide) rfl (by intro k hk;cases hk;rfl) (by rw [smv.cells];rfl) (by rw [smv.cells];exact one'_cons (IsSl.one smv) one'_nil) (by omega) (by omega) (by decide) rfl rfl (fun vn2 _ svn2=>?_)
   refine .v (.nilCheck rfl) (.v (.fieldAddr fd137_0 rfl) (.v (.fieldAddr fd135_2 rfl) ?_))
   refine AK.storeBox 0 (us:=[vn2]) (cs':=[.int .i64 (x.2.1.L:Int),x.2.2.1,vn2,.int .i64 (x.2.1.dn:Int),.map (some mb)]) rfl sz30 rfl rfl (by rw [IsSl.cells svn2]) rfl oneP (leb rfl) rfl trivial ?_
   refine .nt hK20 ?_
   refine .sr fun _ hK21=>?_
   refine .mv rfl (.v (.nilCheck rfl) (.v (.fieldAddr fd137_0 rfl) (.v (.fieldAddr fd135_3 rfl) (.v (.loadBox on3 rfl bsp rfl) ?_))))
   refine .v (.add rfl rfl (by omega)) ?_
   refine .v (.nilCheck rfl) (.v (.fieldAddr fd137_0 rfl) (.v (.fieldAddr fd135_3 rfl) ?_))
   refine AK.storeBox 0 (us:=[.int .i64 ((x.2.1.dn:Int)+1)]) (cs':=[.int .i64 (x.2.1.L:Int),x.2.2.1,vn2,.int .i64 ((x.2.1.dn:Int)+1),.map (some mb)]) rfl sz3 rfl rfl rfl rfl oneP (leb rfl) rfl trivial ?_
   refine .nt hK21 ?_
   refine .sr fun _ hK22=>?_
   refine .as rfl (.nt hK22 (.ret ?_))
   refine AK.own' [box rb 137 5 [.int .i64 (x.2.1.L:Int),x.2.2.1,vn2,.int .i64 ((x.2.1.dn:Int)+1),.map (some mb)],row x.2.2.1 24 3 x.2.1.ex.length (xcs x.2.1.ex x.2.2.2.1),row vn2 67 1 (x.2.1.nx.length+1) (rs++[mv0]),bigA (matG (Value.int .i64) 3 (rs++[mv0]) (x.2.1.nx++[x.1])),mapA mb (mkv sv (Value.int .i64) x.2.1.num),forest B x.2.2.2.2] (fun w hw=>by rw [smv.cells,hkL,Nat.sub_self,List.replicate_zero,List.append_nil] at hw;have h:=HW.absorb (own:=[_,_,_,_,_,_]) 3 rfl hw;rw [matG_snoc hg0.2.1.rl,hkL];exact h) ?_
   refine AK.ret1 rfl rfl (fun w hw=>⟨_,_,_,?_,rfl,Ret.ofBig0 (hw.pick [0,1,2,3,4,5] (by decide) rfl rfl)⟩)
   have eres:res=({ x.2.1 with nx:=x.2.1.nx++[x.1],dn:=x.2.1.dn+1 },0):=by rw [hres];rfl
   subst eres
   refine ⟨rfl,rfl,fun _=>⟨x.2.2.1,vn2,x.2.2.2.1,rs++[mv0],x.2.2.2.2,hg0.2.1.done hdd svn2 _,?_⟩⟩
   simp only [runO,List.length_append,List.length_singleton]
   rfl
end Go.Proofs.YtbibnpdnmmgacaaGreatDoor
namespace Go.Sx
open Go.RowKit
theorem runO_rd {C:Cx} {own:List Asn} {w:World} {TR TE TRI TI rb mb:Nat} {vE vN:Value} {es rs:List Value} {q:Run} {B:Bs} {l:List Itm} (hw:HW C own w) (i:Nat) (hi:own[i]? = some (bigA (runO TR TE TRI TI rb mb vE vN es rs q B l))) :
  BxA w rb [.int .i64 (q.L:Int),vE,vN,.int .i64 (q.dn:Int),.map (some mb)]∧Rd (fun b=>¬ (fun _=>False) b) w vE 3 q.ex.length (xcs q.ex es):=by
 obtain ⟨_,Fs,hh,_⟩:=hw
 obtain ⟨Gs,gh,_⟩:=hh.at_ i _ hi
 refine ⟨⟨TR,(gh.at_ 0 _ rfl).1.1⟩,(row_rd (gh.at_ 1 _ rfl)).mono fun b _ _=>⟨id,rfl⟩⟩
theorem loopR_some {n:Nat} {r:Run} {p:Run × Int} (h:loopR n r=some p):∃ m,n=m+1∧((r.dn=r.ex.length∧p=(r,0))∨(r.dn ≠ r.ex.length∧∃ q,procR r=some q∧((q.2 ≠ 0∧p=q)∨(q.2=0∧loopR m q.1=some p)))):=by
 cases n with
 | zero=>cases h
 | succ m=>
  refine ⟨m,rfl,?_⟩
  rw [loopR] at h
  split at h
  ·cases h;exact .inl ⟨by assumption,rfl⟩
  ·obtain ⟨q,hq,h⟩:=bind_some h
   refine .inr ⟨by assumption,q,hq,?_⟩
   split at h
   ·cases h;exact .inl ⟨by assumption,rfl⟩
   ·exact .inr ⟨by omega,h⟩
theorem validE_letters {e:Ex} {n:Int} (h:validE e n=0):1≤n∧n≤6:=by
 unfold validE at h
 split at h
 ·cases h
 ·omega
theorem buildE_some {e:Ex} {n:Int} {res:Dfa × Int} (h:buildE e n=some res):(validE e n ≠ 0∧res=(zeroD,validE e n))∨(validE e n=0∧∃ e1 r p,normE e=some e1∧addR ⟨n.toNat,[],[],0,[]⟩ e1=some r∧loopR 600 r=some p∧((p.2 ≠ 0∧res=(zeroD,p.2))∨(p.2=0∧res=(autR p.1,0)))):=by
 unfold buildE at h
 split at h
 ·cases h;exact .inl ⟨by assumption,rfl⟩
 ·obtain ⟨e1,h1,h⟩:=bind_some h
  obtain ⟨r,h2,h⟩:=bind_some h
  obtain ⟨p,h3,h⟩:=bind_some h
  refine .inr ⟨by omega,e1,r,p,h1,h2,h3,?_⟩
  split at h
  ·cases h;exact .inl ⟨by assumption,rfl⟩
  ·cases h;exact .inr ⟨by omega,rfl⟩
end Go.Sx
namespace Go.Proofs.YtbibnpdnmmgacaaGreatDoor
open Go.Sx Go.RowKit
set_option maxHeartbeats 1000000 in
theorem s_raut (w:World) (F:Nat→Prop) (B:Bs) (l:List Itm) (hB:BsOk B w F) (rb mb:Nat) (vE vN:Value) (es rs:List Value) (q:Run) (hq:RunF vE vN es rs q l) (hA:(bigA (runO 137 24 67 3 rb mb vE vN es rs q B l)).holds w F):CallM Tryz.prog 48 [.pointer (some ⟨rb,0,none⟩)] w F (fun r A o=>∃ vF,r = .agg #[.int .i64 (q.L:Int),.int .i64 0,vF,vN]∧IsSl vF∧A=bigA (dfaO 4 3 67 vF vN rs (autR q))∧o=[]):=by
 have heL:=hq.eL
 have hle:=hq.le
 have svN:=hq.sN
 unfold runO at hA
 refine specM_of' Tryz.func48 rfl (leb rfl) hA ?_
 refine .sr fun _ hK1=>?_
 refine AK.alloc el32 rfl rfl trivial rfl (fun bx2=>?_)
 refine .nt hK1 ?_
 refine .seq fun _ hK2=>?_
 try (conv=>enter [2,2];simp only [nrm])
 refine AK.heldS _ 12 (fun _ hw=>hw.pick [0] (by decide) rfl rfl) mixed ?_
 refine HeldK.firstS (fun _ hw=>hw.pick [0] (by decide) rfl rfl) 0 (fuel:=12) (listed':=(lb 13 1)) _ rfl krf krf rfl (Yl.move rfl) trivial rfl ?_
 refine HeldK.firstS (fun _ hw=>hw.pick [0] (by decide) rfl rfl) 1 (fuel:=11) (listed':=(lb 13 3)) _ rfl krf krf rfl (Yl.nilCheck rfl) trivial rfl ?_
 refine HeldK.firstS (fun _ hw=>hw.pick [0] (by decide) rfl rfl) 2 (fuel:=10) (listed':=(lb 13 7)) _ rfl krf krf rfl (Yl.fieldAddr fd137_0 rfl) trivial rfl ?_
 refine HeldK.firstS (fun _ hw=>hw.pick [0] (by decide) rfl rfl) 3 (fuel:=9) (listed':=(lb 13 15)) _ rfl krf krf rfl (Yl.fieldAddr fd135_0 rfl) trivial rfl ?_
 refine HeldK.firstS (fun _ hw=>hw.pick [0] (by decide) rfl rfl) 4 (fuel:=8) (listed':=(lb 13 31)) _ rfl krf krf rfl (Yl.loadBox on3 rfl bsp rfl) trivial rfl ?_
 refine HeldK.firstS (fun _ hw=>hw.pick [0] (by decide) rfl rfl) 5 (fuel:=7) (listed':=(lb 13 63)) _ rfl krf krf rfl (Yl.move rfl) trivial rfl ?_
 refine HeldK.firstS (fun _ hw=>hw.pick [0] (by decide) rfl rfl) 6 (fuel:=6) (listed':=(lb 13 127)) _ rfl krf krf rfl (Yl.nilCheck rfl) trivial rfl ?_
 refine HeldK.firstS (fun _ hw=>hw.pick [0] (by decide) rfl rfl) 7 (fuel:=5) (listed':=(lb 13 255)) _ rfl krf krf rfl (Yl.fieldAddr fd137_0 rfl) trivial rfl ?_
 refine HeldK.firstS (fun _ hw=>hw.pick [0] (by decide) rfl rfl) 8 (fuel:=4) (listed':=(lb 13 511)) _ rfl krf krf rfl (Yl.fieldAddr fd135_2 rfl) trivial rfl ?_
 refine HeldK.firstS (fun _ hw=>hw.pick [0] (by decide) rfl rfl) 9 (fuel:=3) (listed':=(lb 13 1023)) _ rfl krf krf rfl (Yl.loadBox on30 rfl bsp rfl) trivial rfl ?_
 refine HeldK.firstS (fun _ hw=>hw.pick [0] (by decide) rfl rfl) 10 (fuel:=2) (listed':=(lb 13 2047)) _ rfl krf krf rfl (Yl.build (parts:=[(0,.tmp 10),(3,.tmp 15)]) (cs:=#[.int .i64 (q.L:Int),.int .i64 0,.slice none 0 0,vN]) rfl (by obtain ⟨_,_,_,rfl⟩:=svN;kernel_rfl)) trivial rfl ?_
 refine HeldK.one 11 (fuel:=1) (listed':=(lb 13 4095)) krf rfl krf ?_
 refine AK.alloc el32 rfl rfl trivial rfl (fun bx3=>?_)
 refine .nil ?_
 try (conv=>enter [2,2];simp only [nrm])
 refine HeldK.backS (fun _ hw=>hw.pick [0] (by decide) rfl rfl) ?_
 refine HeldK.one 12 (fuel:=0) (listed':=(lb 13 8191)) krf rfl krf ?_
 refine AK.storeBox 7 (us:=[.int .i64 (q.L:Int),.int .i64 0,.slice none 0 0,vN]) (cs':=[.int .i64 (q.L:Int),.int .i64 0,.slice none 0 0,vN]) rfl sz32 rfl rfl rfl rfl oneP (leb rfl) rfl trivial ?_
 refine .nil ?_
 try (conv=>enter [2,2];simp only [nrm])
 refine HeldK.backN 13 krf rfl krf ?_
 refine .nil ?_
 refine AK.fromQn ?_
 refine AK.then_ (hK2 _ ?_)
 refine .seq fun _ hK3=>?_
 refine .sr fun _ hK4=>?_
 refine .mv rfl (.v (.nilCheck rfl) (.v (.fieldAddr fd137_0 rfl) (.v (.fieldAddr fd135_1 rfl) (.v (.loadBox on22 rfl bsp rfl) (.v (.lenR sl22 rfl rdp) (.mv rfl (.nt hK4 (.block ?_))))))))
 refine AK.loopK (X:=Nat × Value) [(2,_),(3,_),(21,_),(22,_)] (fun x=>[(23,.int .i64 (x.1:Int))]) (fun x=>[box rb 137 5 [.int .i64 (q.L:Int),vE,vN,.int .i64 (q.dn:Int),.map (some mb)],row vE 24 3 q.ex.length (xcs q.ex es),row vN 67 1 q.nx.length rs,bigA (matG (Value.int .i64) 3 rs q.nx),mapA mb (mkv sv (Value.int .i64) q.num),forest B l,box bx2 32 4 [.int .i64 0,.int .i64 0,.slice none 0 0,.slice none 0 0],box bx3 32 4 [.int .i64 (q.L:Int),.int .i64 0,x.2,vN],row x.2 4 1 x.1 (((q.ex.take x.1).map hasU).map Value.bool)]) (fun x=>x.1≤q.ex.length∧IsSl x.2) (fun x=>q.ex.length - x.1) ((0,.slice none 0 0)) slr ?_ ?_ ?_ ?_
 ·exact ⟨Nat.zero_le _,nilSl⟩
 ·exact slr
 ·exact fun w hw=>by have h:=hw.ghost 4 1;exact h
 ·intro x hg0 _ hK5
  refine .sr fun _ hK6=>?_
  refine .v (.lss rfl rfl) (.nt hK6 ?_)
  refine .seq fun _ hK7=>?_
  refine AK.condD rfl (fun hc0=>?_) (fun hc0=>?_)
  ·have sk:=hq.g.s x.1 (by omega)
   have sx:=hg0.2
   refine .skip ?_
   refine AK.then_ (hK7 _ ?_)
   refine .seq fun _ hK8=>?_
   refine .block ?_
   refine .sr fun _ hK9=>?_
   first | refine .v (.iN sl22 rfl rfl) ?_ | refine .v (.iK sl22 rfl rfl) ?_
   refine .v (.loadE ag24 rfl rdp heL rfl (by omega)) ?_
   refine AK.alloc el24 rfl rfl trivial rfl (fun bx5=>?_)
   refine AK.storeBox 9 (us:=[.int .i64 (q.ex.getD x.1 default).op,.int .i64 (q.ex.getD x.1 default).lt,es.getD x.1 undef]) (cs':=[.int .i64 (q.ex.getD x.1 default).op,.int .i64 (q.ex.getD x.1 default).lt,es.getD x.1 undef]) rfl sz24 rfl rfl rfl rfl oneP (leb rfl) rfl trivial ?_
   refine .nt hK9 ?_
   refine AK.joinK (X:=Value) [(2,_),(3,_),(21,_),(22,_),(23,_)] (fun z=>[]) (fun z=>[box rb 137 5 [.int .i64 (q.L:Int),vE,vN,.int .i64 (q.dn:Int),.map (some mb)],row vE 24 3 q.ex.length (xcs q.ex es),row vN 67 1 q.nx.length rs,bigA (matG (Value.int .i64) 3 rs q.nx),mapA mb (mkv sv (Value.int .i64) q.num),forest B l,box bx2 32 4 [.int .i64 0,.int .i64 0,.slice none 0 0,.slice none 0 0],box bx3 32 4 [.int .i64 (q.L:Int),.int .i64 0,z,vN],row z 4 1 (x.1+1) (((q.ex.take (x.1+1)).map hasU).map Value.bool),box bx5 24 3 [.int .i64 (q.ex.getD x.1 default).op,.int .i64 (q.ex.getD x.1 default).lt,es.getD x.1 undef]]) (fun z=>IsSl z) slr (fun _ hJ=>?_) (fun z hg=>?_)
   ·try (conv=>enter [2,2];simp only [nrm])
    refine AK.heldS _ 7 (fun _ hw=>hw.pick [7,9] (by decide) rfl rfl) mixed ?_
    refine HeldK.firstS (fun _ hw=>hw.pick [7,9] (by decide) rfl rfl) 0 (fuel:=7) (listed':=(lb 8 1)) _ rfl krf krf rfl (Yl.fieldAddr fd32_2 rfl) trivial rfl ?_
    refine HeldK.firstS (fun _ hw=>hw.pick [7,9] (by decide) rfl rfl) 1 (fuel:=6) (listed':=(lb 8 3)) _ rfl krf krf rfl (Yl.loadBox on29 rfl bsp rfl) trivial rfl ?_
    refine HeldK.firstS (fun _ hw=>hw.pick [7,9] (by decide) rfl rfl) 2 (fuel:=5) (listed':=(lb 8 7)) _ rfl krf krf rfl (Yl.loadBoxG ag24 rfl bsp rfl rfl) trivial rfl ?_
    refine HeldK.one 3 (fuel:=4) (listed':=(lb 8 15)) krf rfl krf ?_
    refine AK.call co52 rfl (fun w hw=>s_hasu _ w _ (hw.kidR hB 5 rfl (hq.g.d x.1 (by omega)))) trivial rfl ?_
    rintro r o ⟨rfl,rfl⟩
    refine .nil ?_
    try (conv=>enter [2,2];simp only [nrm])
    refine HeldK.backS (fun _ hw=>hw.pick [7,9] (by decide) rfl rfl) ?_
    refine HeldK.one 4 (fuel:=3) (listed':=(lb 8 31)) krf rfl krf ?_
    refine AK.lit (xs:=[.tmp 30]) sl29 el4 rfl rfl rfl (by simp [Value.cells]) (by decide) (by decide) trivial rfl (fun lv=>?_)
    refine .nil ?_
    try (conv=>enter [2,2];simp only [nrm])
    refine HeldK.backS (fun _ hw=>hw.pick [7,9] (by decide) rfl rfl) ?_
    refine HeldK.one 5 (fuel:=2) (listed':=(lb 8 63)) krf rfl krf ?_
    refine AK.appendS 8 rfl sl29 el4 rfl (by decide) rfl rfl rfl rdp (one'_cons rfl one'_nil) (by omega) (by omega) trivial rfl (fun v2=>?_)
    refine AK.shape 8 rfl (fun sv2=>?_)
    refine .nil ?_
    try (conv=>enter [2,2];simp only [nrm])
    refine HeldK.backS (fun _ hw=>hw.pick [7,9] (by decide) rfl rfl) ?_
    refine HeldK.firstS (fun _ hw=>hw.pick [7,9] (by decide) rfl rfl) 6 (fuel:=1) (listed':=(lb 8 127)) _ rfl krf krf rfl (Yl.fieldAddr fd32_2 rfl) trivial rfl ?_
    refine HeldK.one 7 (fuel:=0) (listed':=(lb 8 255)) krf rfl krf ?_
    refine AK.storeBox 7 (us:=[v2]) (cs':=[.int .i64 (q.L:Int),.int .i64 0,v2,vN]) rfl sz29 rfl rfl (by rw [IsSl.cells sv2]) rfl oneP (leb rfl) rfl trivial ?_
    refine .nil ?_
    try (conv=>enter [2,2];simp only [nrm])
    refine HeldK.backN 8 krf rfl krf ?_
    refine .nil ?_
    refine AK.fromQn ?_
    exact hJ _ _ (v2) sv2 (slr) (fun w hw=>by rw [take_snocD default q.ex x.1 (by omega),List.map_append,List.map_append];have h:=hw.pick [0,1,2,3,4,5,6,7,8,9] (by decide) rfl rfl;exact h)
   ·skip
    refine .block_normal ?_
    refine AK.then_ (hK8 _ ?_)
    refine AK.region ?_
    refine .v (.add rfl rfl (by omega)) ?_
    refine .mv rfl (.nil ?_)
    refine AK.then_ (hK5 _ _ ((x.1+1,z)) ⟨by dsimp only;omega,hg⟩ (by dsimp only;omega) (slr) (fun w hw=>hw.pick [0,1,2,3,4,5,6,7,8] (by decide) rfl rfl))
  ·have sx:=hg0.2
   refine .exit (.then_exit (.then_exit (.block_exit ?_)))
   refine AK.then_ (hK3 _ ?_)
   refine .sr fun _ hK10=>?_
   refine .v (.loadBoxG ag32 rfl bsp rfl rfl) ?_
   refine AK.storeBox 6 (us:=[.int .i64 (q.L:Int),.int .i64 0,x.2,vN]) (cs':=[.int .i64 (q.L:Int),.int .i64 0,x.2,vN]) rfl sz32 rfl rfl rfl rfl oneP (leb rfl) rfl trivial ?_
   refine .nt hK10 (.ret ?_)
   refine AK.retG [.cell 2 32] rfl (.cons (.cell ag32 rfl bsp rfl rfl) (.nil)) (fun w hw=>⟨_,_,_,?_,rfl,Ret.ofBig0 (hw.pick [8,2,3] (by decide) rfl rfl)⟩)
   have e1:x.1=q.ex.length:=by omega
   refine ⟨x.2,rfl,hg0.2,?_,rfl⟩
   rw [e1,List.take_length]
   simp only [dfaO,autR,List.length_map]
   rfl
set_option maxHeartbeats 2000000 in
theorem s_build (w:World) (F:Nat→Prop) (B:Bs) (l:List Itm) (hB:BsOk B w F) (hA:(forest B l).holds w F) (e:Ex) (s:Value) (hm:Itm.deep s e.kids∈l) (n:Int) (res:Dfa × Int) (hb:buildE e n=some res):CallM Tryz.prog 11 [.agg #[.int .i64 e.op,.int .i64 e.lt,s],.int .i64 n] w F (fun r A o=>∃ vF vN rs,r = .tuple #[.agg #[.int .i64 res.1.L,.int .i64 res.1.s,vF,vN],.int .i64 res.2]∧rs.length=res.1.nx.length∧IsSl vF∧IsSl vN∧A=bigA (dfaO 4 3 67 vF vN rs res.1)∧o=[]):=by
 refine specM_of Tryz.func11 rfl (leb rfl) hA ?_
 refine .sr fun _ hK1=>?_
 refine AK.box_ (E:=24) (cs:=[.int .i64 e.op,.int .i64 e.lt,s]) rfl rfl rfl trivial rfl (fun bx2=>?_)
 refine AK.alloc el32 rfl rfl trivial rfl (fun bx4=>?_)
 refine .as rfl (.nt hK1 ?_)
 refine .seq fun _ hK2=>?_
 refine .sr fun _ hK3=>?_
 refine .v (.loadBoxG ag24 rfl bsp rfl rfl) (.mv rfl ?_)
 refine AK.call co43 rfl (fun w hw=>s_valid w e s n (hw.kidR hB 0 rfl hm)) trivial rfl ?_
 rintro r o ⟨rfl,rfl⟩
 refine .as rfl (.nt hK3 ?_)
 refine .sr fun _ hK4=>?_
 refine .mv rfl (.v (.neq rfl rfl) (.nt hK4 ?_))
 refine AK.condNe rfl (fun hc0=>?_) (fun hc0=>?_)
 ·have eres:res=(zeroD,validE e n):=by
   rcases buildE_some hb with ⟨_,h⟩ | ⟨h,_⟩
   ·exact h
   ·exact absurd h hc0
  refine .sr fun _ hK5=>?_
  refine .v (.build (parts:=[]) (cs:=#[.int .i64 0,.int .i64 0,.slice none 0 0,.slice none 0 0]) rfl (by kernel_rfl)) ?_
  refine .mv rfl ?_
  refine AK.storeBox 2 (us:=[.int .i64 0,.int .i64 0,.slice none 0 0,.slice none 0 0]) (cs':=[.int .i64 0,.int .i64 0,.slice none 0 0,.slice none 0 0]) rfl sz32 rfl rfl rfl rfl oneP (leb rfl) rfl trivial ?_
  refine .as rfl (.nt hK5 (.ret (.then_ret ?_)))
  refine AK.ghost 4 1 ?_
  refine AK.ghost 67 1 ?_
  refine AK.own' _ (fun w hw=>HW.ghostG (f:=Value.int .i64) 3 hw) ?_
  refine AK.own' [bigA (dfaO 4 3 67 nilV nilV [] zeroD),box bx4 32 4 [.int .i64 0,.int .i64 0,.slice none 0 0,.slice none 0 0]] (fun w hw=>by have h:=HW.unflat (l:=[_,_,_]) (own:=[_]) (hw.pick [3,4,5,2] (by decide) rfl rfl);exact h) ?_
  refine AK.retG [.cell 4 32,.tmp 5] rfl (.cons (.cell ag32 rfl bsp rfl rfl) (.cons (.tmp rfl) (.nil))) (fun w hw=>⟨_,_,_,?_,rfl,Ret.of (hw.pick [0] (by decide) rfl rfl)⟩)
  subst eres
  exact ⟨nilV,nilV,[],rfl,rfl,nilSl,nilSl,rfl,rfl⟩
 ·obtain ⟨hv0,e1,q2,p,hn1,ha,hlp,hfin⟩:=(buildE_some hb).resolve_left (fun h=>h.1 (by omega))
  have hLb:=validE_letters hv0
  obtain ⟨L,rfl⟩:∃ L:Nat,n=L:=⟨n.toNat,by omega⟩
  rw [Int.toNat_natCast] at ha
  refine .skip ?_
  refine AK.then_ (hK2 _ ?_)
  refine .sr fun _ hK6=>?_
  refine .v (.loadBoxG ag24 rfl bsp rfl rfl) ?_
  refine AK.callN 0 rfl co45 rfl (fun w Fs hw hh hfr hal=>s_norm e w (Fs 0) B l (hB.later hfr hal 0) (hh.at_ 0 _ rfl) s hm e1 hn1) trivial rfl ?_
  rintro r A o ⟨sr,l2,rfl,ssr,rfl,hs2,hm2,rfl⟩
  refine .mv rfl ?_
  refine AK.callN 0 rfl co44 rfl (fun w Fs hw hh hfr hal=>s_begin w (Fs 0) B l2 (hB.later hfr hal 0) (hh.at_ 0 _ rfl) e1 sr hm2 ssr L (by omega) q2 ha) trivial rfl ?_
  rintro r A o ⟨rb,mb,vE,es,rfl,hq0,rfl,rfl⟩
  refine .as rfl (.nt hK6 ?_)
  refine .seq fun _ hK7=>?_
  refine .block ?_
  refine AK.loopK (X:=Nat × Run × Value × Value × List Value × List Value × List Itm) [(4,_),(7,_)] (fun x=>[]) (fun x=>[bigA (runO 137 24 67 3 rb mb x.2.2.1 x.2.2.2.1 x.2.2.2.2.1 x.2.2.2.2.2.1 x.2.1 B x.2.2.2.2.2.2),box bx2 24 3 [.int .i64 e.op,.int .i64 e.lt,s],box bx4 32 4 [.int .i64 0,.int .i64 0,.slice none 0 0,.slice none 0 0]]) (fun x=>RunF x.2.2.1 x.2.2.2.1 x.2.2.2.2.1 x.2.2.2.2.2.1 x.2.1 x.2.2.2.2.2.2∧loopR x.1 x.2.1=some p) (fun x=>x.1) ((600,q2,vE,nilV,es,[],l2)) slr ?_ ?_ ?_ ?_
  ·exact ⟨hq0,hlp⟩
  ·exact slr
  ·exact fun w hw=>hw
  ·intro x hg0 _ hK8
   refine .seq fun _ hK9=>?_
   refine .sr fun _ hK10=>?_
   refine .mv rfl ?_
   refine AK.call co46 rfl (fun w hw=>s_rfin w rb mb x.2.2.1 x.2.2.2.1 x.2.2.2.2.1 x.2.1 (runO_rd hw 0 rfl).1 (runO_rd hw 0 rfl).2) trivial rfl ?_
   rintro r o ⟨rfl,rfl⟩
   refine .v (.not rfl) (.nt hK10 ?_)
   refine AK.condB rfl (fun hc1=>?_) (fun hc1=>?_)
   ·have hne:x.2.1.dn ≠ x.2.1.ex.length:=by simpa using hc1
    have hdn:x.2.1.dn<x.2.1.ex.length:=by have:=hg0.1.dn;omega
    obtain ⟨m,hm1,hcs⟩:=loopR_some hg0.2
    obtain ⟨_,r2,hr2,hcs⟩:=hcs.resolve_left (fun h=>hne h.1)
    refine .skip ?_
    refine AK.then_ (hK9 _ ?_)
    refine .block ?_
    refine .sr fun _ hK11=>?_
    refine .mv rfl ?_
    refine AK.callN 0 rfl co47 rfl (fun w Fs hw hh hfr hal=>s_rproc w (Fs 0) B x.2.2.2.2.2.2 (hB.later hfr hal 0) rb mb x.2.2.1 x.2.2.2.1 x.2.2.2.2.1 x.2.2.2.2.2.1 x.2.1 hg0.1 (hh.at_ 0 _ rfl) hdn r2 hr2) trivial rfl ?_
    rintro r A o ⟨rfl,rfl,hpost⟩
    refine .as rfl (.nt hK11 ?_)
    refine .sr fun _ hK12=>?_
    refine .mv rfl (.v (.neq rfl rfl) (.nt hK12 ?_))
    refine AK.condNe rfl (fun hc2=>?_) (fun hc2=>?_)
    ·have hp2:p=r2:=by
      rcases hcs with ⟨_,h⟩ | ⟨h,_⟩
      ·exact h
      ·exact absurd h hc2
     subst hp2
     have eres:res=(zeroD,p.2):=by
      rcases hfin with ⟨_,h⟩ | ⟨h,_⟩
      ·exact h
      ·exact absurd h hc2
     refine .sr fun _ hK13=>?_
     refine .v (.build (parts:=[]) (cs:=#[.int .i64 0,.int .i64 0,.slice none 0 0,.slice none 0 0]) rfl (by kernel_rfl)) ?_
     refine .mv rfl ?_
     refine AK.storeBox 2 (us:=[.int .i64 0,.int .i64 0,.slice none 0 0,.slice none 0 0]) (cs':=[.int .i64 0,.int .i64 0,.slice none 0 0,.slice none 0 0]) rfl sz32 rfl rfl rfl rfl oneP (leb rfl) rfl trivial ?_
     refine .as rfl (.nt hK13 (.ret (.block_ret (.then_ret (.block_ret (.then_ret ?_))))))
     refine AK.ghost 4 1 ?_
     refine AK.ghost 67 1 ?_
     refine AK.own' _ (fun w hw=>HW.ghostG (f:=Value.int .i64) 3 hw) ?_
     refine AK.own' [bigA (dfaO 4 3 67 nilV nilV [] zeroD),box bx4 32 4 [.int .i64 0,.int .i64 0,.slice none 0 0,.slice none 0 0]] (fun w hw=>by have h:=HW.unflat (l:=[_,_,_]) (own:=[_]) (hw.pick [3,4,5,2] (by decide) rfl rfl);exact h) ?_
     refine AK.retG [.cell 4 32,.tmp 5] rfl (.cons (.cell ag32 rfl bsp rfl rfl) (.cons (.tmp rfl) (.nil))) (fun w hw=>⟨_,_,_,?_,rfl,Ret.of (hw.pick [0] (by decide) rfl rfl)⟩)
     subst eres
     exact ⟨nilV,nilV,[],rfl,rfl,nilSl,nilSl,rfl,rfl⟩
    ·have hz:r2.2=0:=by omega
     have hlp2:loopR m r2.1=some p:=by
      rcases hcs with ⟨h,_⟩ | ⟨_,h⟩
      ·exact absurd hz h
      ·exact h
     obtain ⟨vE2,vN2,es2,rs2,l3,hq3,rfl⟩:=hpost hz
     refine .skip (.block_normal ?_)
     refine AK.then_ (hK8 _ _ ((m,r2.1,vE2,vN2,es2,rs2,l3)) ⟨hq3,hlp2⟩ (by dsimp only;omega) (slr) (fun w hw=>hw.pick [0,1,2] (by decide) rfl rfl))
   ·have heq:x.2.1.dn=x.2.1.ex.length:=by simpa using hc1
    obtain ⟨m,hm1,hcs⟩:=loopR_some hg0.2
    have hpe:p=(x.2.1,0):=by
     rcases hcs with ⟨_,h⟩ | ⟨h,_⟩
     ·exact h
     ·exact absurd heq h
    subst hpe
    have svN:=hg0.1.sN
    refine .exit (.then_exit (.then_exit (.block_exit ?_)))
    refine AK.then_ (hK7 _ ?_)
    refine .sr fun _ hK14=>?_
    refine .mv rfl ?_
    refine AK.callN 0 rfl co48 rfl (fun w Fs hw hh hfr hal=>s_raut w (Fs 0) B x.2.2.2.2.2.2 (hB.later hfr hal 0) rb mb x.2.2.1 x.2.2.2.1 x.2.2.2.2.1 x.2.2.2.2.2.1 x.2.1 hg0.1 (hh.at_ 0 _ rfl)) trivial rfl ?_
    rintro r A o ⟨vF,rfl,svF,rfl,rfl⟩
    refine AK.storeBox 2 (us:=[.int .i64 (x.2.1.L:Int),.int .i64 0,vF,x.2.2.2.1]) (cs':=[.int .i64 (x.2.1.L:Int),.int .i64 0,vF,x.2.2.2.1]) rfl sz32 rfl rfl rfl rfl oneP (leb rfl) rfl trivial ?_
    refine .as rfl (.nt hK14 (.ret ?_))
    refine AK.retG [.cell 4 32,.tmp 5] rfl (.cons (.cell ag32 rfl bsp rfl rfl) (.cons (.tmp rfl) (.nil))) (fun w hw=>⟨_,_,_,?_,rfl,Ret.of (hw.pick [0] (by decide) rfl rfl)⟩)
    have eres:res=(autR x.2.1,0):=by
     rcases hfin with ⟨h,_⟩ | ⟨_,h⟩
     ·exact absurd rfl h
     ·exact h
    subst eres
    exact ⟨vF,x.2.2.2.1,x.2.2.2.2.2.1,rfl,hg0.1.rl,svF,svN,rfl,rfl⟩
end Go.Proofs.YtbibnpdnmmgacaaGreatDoor
namespace Go.Sx
open Go.RowKit
section
variable {C : Cx} {sl : List (Nat × Value)} {own : List Asn} {dst : Option Nat} {ty : TypeId} {pos : String} {aft : Array Edge} {g : Option (Nat × Bool)} {x y : Operand} {t t' : TypeId}
theorem Yl.shlI {k:IntKind} {m n:Int} (r:Int) (hx:opv ⟨sl,own⟩ x=some (.int .i64 m)) (hy:opv ⟨sl,own⟩ y=some (.int k n)) (hn:0≤n∧n≤62) (e:m * 2 ^ n.toNat=r) (hr:-9223372036854775808≤r∧r≤9223372036854775807) :
  Yl C ⟨sl,own⟩ ⟨dst,.binOp .shl t x y t',ty,pos,aft,g⟩ (.int .i64 r):=
 fun a w hs=>by
  have h1:Min.min n.toNat 64=n.toNat:=by omega
  have h2:¬ n<0:=by omega
  simp only [execOp,opv_eval hs hx,opv_eval hs hy]
  simp [go_sem,binOp,Op.shift,IntKind.bits,h1,h2,e,wrap_in hr.1 hr.2]
end
theorem and63 {m:Nat} (h:m<64):andZ (m:Int) 63=m:=by
 have:∀ k:Fin 64,andZ ((k.val:Nat):Int) 63=k.val:=by decide
 exact this ⟨m,h⟩
theorem div64 {m:Nat} (h:m<64):(m:Int) / 2 ^ (6:Int).toNat=0:=by
 show (m:Int) / 64=0
 omega
def leafS (e:Ex) (wd:List UInt8) (i:Nat):W64:=
 if e.op=2 then 0 ||| ((1:W64) <<< i) else if e.op=3∧i<wd.length∧((wd.getD i 0).toNat:Int) - 97=e.lt then 0 ||| ((1:W64) <<< (i+1)) else 0
def leafOp (e:Ex):Prop:=e.op ≠ 4∧e.op ≠ 5∧e.op ≠ 6∧e.op ≠ 7∧e.op ≠ 8
theorem valid97 {wd:List UInt8} (h:validW 6 wd=true) {i:Nat} (hi:i<wd.length):97≤((wd.getD i 0).toNat:Int)∧((wd.getD i 0).toNat:Int)≤102:=by
 unfold validW at h
 rw [Bool.and_eq_true,List.all_eq_true] at h
 have:=h.2 _ (List.getElem_mem hi)
 have e:wd.getD i 0=wd[i]:=by simp [List.getD_eq_getElem?_getD,hi]
 rw [e]
 unfold okB at this
 simp at this
 omega
theorem bit_shr (x:W64) (i:Nat):decide (x >>> i &&& 1=1)=x.getLsbD i:=by
 have e:(x >>> i &&& 1).toNat=(x.toNat >>> i) % 2:=by
  rw [BitVec.toNat_and,BitVec.toNat_ushiftRight]
  exact Nat.and_one_is_mod _
 have e2:x.getLsbD i=decide ((x.toNat >>> i) % 2=1):=by
  show x.toNat.testBit i=_
  rw [Nat.testBit,Nat.and_comm,Nat.and_one_is_mod]
  rcases Nat.mod_two_eq_zero_or_one (x.toNat >>> i) with h | h <;> simp [h]
 rw [e2]
 apply decide_eq_decide.2
 constructor
 ·intro h;rw [← e,h];rfl
 ·intro h;apply BitVec.eq_of_toNat_eq;rw [e,h];rfl
theorem rep_get {n i:Nat} {v z d:Value} (hi:i<n):((List.replicate n z).set i v).getD i d=v:=by
 simp [List.getD_eq_getElem?_getD,List.getElem?_set,hi]
end Go.Sx
namespace Go.Proofs.YtbibnpdnmmgacaaGreatDoor
open Go.Sx Go.RowKit
theorem s_tz (w:World) (s:W64) (hT:TbA w):CallS Tryz.prog 108 [uv s] w (fun r o=>r = .int .i64 ((Lib.ctz 64 s.toNat:Nat):Int)∧o=[]):=by
 refine spec_of Tryz.func108 rfl (leb rfl) ?_
 refine .sr fun _ hK1=>?_
 refine .as rfl (.nt hK1 ?_)
 refine .seq fun _ hK2=>?_
 refine .sr fun _ hK3=>?_
 refine .mv rfl (.v (.eqlU (b:=0) rfl rfl) (.nt hK3 ?_))
 refine AK.condD rfl (fun hc0=>?_) (fun hc0=>?_)
 ·refine .sr fun _ hK4=>?_
  refine .as rfl (.nt hK4 (.ret (.then_ret ?_)))
  refine AK.ret1 rfl rfl (fun w hw=>⟨_,_,?_,rfl,Ret.of (hw.pick [] (by decide) rfl rfl)⟩)
  rw [hc0]
  exact ⟨rfl,rfl⟩
 ·obtain ⟨k,hk1,hk2,hk3⟩:=tz_key (s:=s) hc0
  have hct:=(low_bits hc0).1
  refine .skip ?_
  refine AK.then_ (hK2 _ ?_)
  refine .sr fun _ hK5=>?_
  refine .mv rfl (.mv rfl (.v (.negU rfl) (.v (.andU rfl rfl) (.v (.mulU (b:=285870213051353865) rfl rfl) ?_))))
  refine AK.val (.int .u64 (k:Int)) (Yl.valE (Yl.shrU (n:=58) rfl rfl (by omega)) (by show uv (((s &&& -s) * 285870213051353865) >>> 58)=_;rw [hk2];exact uv_nat hk1)) trivial rfl ?_
  refine AK.val (.pointer (some ⟨0,k,none⟩)) (Yl.valE (Yl.idxArrU ar197 rfl rfl hk1) (by simp)) trivial rfl ?_
  refine AK.val (.int .u8 ((Lib.ctz 64 s.toNat:Nat):Int)) (Yl.valE (Yl.loadTb on5 rfl hk1 hT) (by rw [hk3])) trivial rfl ?_
  refine .v (.convI (by kernel_rfl) un3 rfl (wrap_i64 (by omega))) ?_
  refine .as rfl (.nt hK5 (.ret ?_))
  refine AK.ret1 rfl rfl (fun w hw=>⟨_,_,?_,rfl,Ret.of (hw.pick [] (by decide) rfl rfl)⟩)
  exact ⟨rfl,rfl⟩
theorem s_onone (w:World) (wd:List UInt8) (hl:wd.length≤62):CallS Tryz.prog 39 [.agg #[sv wd]] w (fun r o=>IsSl r∧o=[row r 42 1 1 ([0].map uv)]):=by
 refine spec_of Tryz.func39 rfl (leb rfl) ?_
 refine .sr fun _ hK1=>?_
 refine AK.box_ (E:=75) (cs:=[sv wd]) rfl rfl rfl trivial rfl (fun bx1=>?_)
 refine .as rfl (.nt hK1 ?_)
 refine .sr fun _ hK2=>?_
 refine .v (.fieldAddr fd75_0 rfl) (.v (.loadBox on9 rfl bsp rfl) (.v (.lenS un9 rfl) ?_))
 refine AK.val (.int .i64 0) (Yl.valE (Yl.shr (n:=6) rfl rfl (by omega) (by omega)) (by rw [div64 (by omega)])) trivial rfl ?_
 refine AK.val (.int .i64 ((1:Nat):Int)) (Yl.addE 1 rfl rfl (by omega) (by omega)) trivial rfl ?_
 refine AK.make1 sl76 el42 rfl rfl rfl (by omega) (by omega) trivial rfl (fun mv0=>?_)
 refine .as rfl (.nt hK2 (.ret ?_))
 refine AK.shape 1 rfl (fun smv=>?_)
 refine AK.ret1 rfl rfl (fun w hw=>⟨_,_,?_,rfl,Ret.of (hw.pick [1] (by decide) rfl rfl)⟩)
 exact ⟨smv,rfl⟩
theorem s_oadd (w:World) (F:Nat→Prop) (s:Value) (x:W64) (i:Nat) (hi:i<64) (hA:(row s 42 1 1 ([x].map uv)).holds w F):CallM Tryz.prog 40 [s,.int .i64 (i:Int)] w F (fun r A o=>A=row s 42 1 1 ([(x ||| ((1:W64) <<< i))].map uv)∧o=[]):=by
 refine specM_of Tryz.func40 rfl (leb rfl) hA ?_
 try (conv=>enter [2,2];simp only [nrm])
 refine AK.held 10 mixed ?_
 refine HeldK.first 0 (fuel:=10) (listed':=(lb 11 1)) _ rfl krf krf rfl (Yl.move rfl) trivial rfl ?_
 refine HeldK.first 1 (fuel:=9) (listed':=(lb 11 3)) _ rfl krf krf rfl (Yl.move rfl) trivial rfl ?_
 refine HeldK.first 2 (fuel:=8) (listed':=(lb 11 7)) _ rfl krf krf rfl (Yl.valE (Yl.shr (m:=(i:Int)) (n:=6) rfl rfl (by omega) (by omega)) (show _=Value.int .i64 ((0:Nat):Int) from by rw [div64 hi];rfl)) trivial rfl ?_
 first | refine HeldK.first 3 (fuel:=7) (listed':=(lb 11 15)) _ rfl krf krf rfl (.iN sl76 rfl rfl) trivial rfl ?_ | refine HeldK.first 3 (fuel:=7) (listed':=(lb 11 15)) _ rfl krf krf rfl (.iK sl76 rfl rfl) trivial rfl ?_
 refine HeldK.first 4 (fuel:=6) (listed':=(lb 11 31)) _ rfl krf krf rfl (Yl.loadU on42 rfl rdp (leb rfl)) trivial rfl ?_
 refine HeldK.first 5 (fuel:=5) (listed':=(lb 11 63)) _ rfl krf krf rfl (Yl.move rfl) trivial rfl ?_
 refine HeldK.first 6 (fuel:=4) (listed':=(lb 11 127)) _ rfl krf krf rfl (Yl.valE (Yl.andAny rfl rfl) (show _=Value.int .i64 (i:Int) from by rw [and63 hi])) trivial rfl ?_
 refine HeldK.first 7 (fuel:=3) (listed':=(lb 11 255)) _ rfl krf krf rfl (Yl.shlU (a:=1) (n:=(i:Int)) rfl rfl (by omega)) trivial rfl ?_
 refine HeldK.first 8 (fuel:=2) (listed':=(lb 11 511)) _ rfl krf krf rfl (Yl.orU rfl rfl) trivial rfl ?_
 first | refine HeldK.first 9 (fuel:=1) (listed':=(lb 11 1023)) _ rfl krf krf rfl (.iN sl76 rfl rfl) trivial rfl ?_ | refine HeldK.first 9 (fuel:=1) (listed':=(lb 11 1023)) _ rfl krf krf rfl (.iK sl76 rfl rfl) trivial rfl ?_
 refine HeldK.one 10 (fuel:=0) (listed':=(lb 11 2047)) krf rfl krf ?_
 refine AK.store1e 0 rfl sz42 rfl rfl rfl rfl (by omega) (cs':=([x ||| ((1:W64) <<< i)].map uv)) (rfl) trivial ?_
 refine .nil ?_
 try (conv=>enter [2,2];simp only [nrm])
 refine HeldK.backN 11 krf rfl krf ?_
 refine .nil ?_
 refine AK.fromQn ?_
 refine AK.endG [] rfl (.nil) (fun w hw=>⟨_,_,_,?_,rfl,Ret.of (hw.pick [0] (by decide) rfl rfl)⟩)
 exact ⟨rfl,rfl⟩
theorem s_ohas (w:World) (s:Value) (x:W64) (i:Nat) (hi:i<64) (hr:Rd (fun b=>¬ (fun _=>False) b) w s 1 1 ([x].map uv)):CallS Tryz.prog 42 [s,.int .i64 (i:Int)] w (fun r o=>r = .bool (x.getLsbD i)∧o=[]):=by
 refine spec_of Tryz.func42 rfl (leb rfl) ?_
 refine .sr fun _ hK1=>?_
 refine .as rfl (.nt hK1 ?_)
 refine .sr fun _ hK2=>?_
 refine .mv rfl (.mv rfl ?_)
 refine .v (.valE (Yl.shr (m:=(i:Int)) (n:=6) rfl rfl (by omega) (by omega)) (show _=Value.int .i64 ((0:Nat):Int) from by rw [div64 hi];rfl)) ?_
 first | refine .v (.iN sl76 rfl rfl) ?_ | refine .v (.iK sl76 rfl rfl) ?_
 refine .v (.loadU on42 rfl rdp (leb rfl)) (.mv rfl ?_)
 refine .v (.valE (Yl.andAny rfl rfl) (show _=Value.int .i64 (i:Int) from by rw [and63 hi])) ?_
 refine .v (.shrU (n:=(i:Int)) rfl rfl (by omega)) ?_
 refine .v (.andU (b:=1) rfl rfl) (.v (.eqlU (b:=1) rfl rfl) (.as rfl (.nt hK2 (.ret ?_))))
 refine AK.ret1 rfl rfl (fun w hw=>⟨_,_,?_,rfl,Ret.of (hw.pick [] (by decide) rfl rfl)⟩)
 exact ⟨congrArg Value.bool (bit_shr x i),rfl⟩
set_option maxHeartbeats 1000000 in
theorem s_oeach (w:World) (F:Nat→Prop) (JP:List Nat→Asn→Prop) (A0:Asn) (hJ0:JP [] A0) (hA:A0.holds w F) (s:Value) (x:W64) (hr:Rd (fun b=>¬ F b) w s 1 1 ([x].map uv)) (hT:TbA w) (hF:¬ F 0) (f:FuncId) (cs:List Value) (hco:CallOk Tryz.prog f) (hv:∀ (w':World) (F':Nat→Prop) (A:Asn) (pre:List Nat) (i:Nat) (post:List Nat),pre++i :: post=mems x→JP pre A→A.holds w' F'→FrameX F w w'→(∀ b,F' b→w.heap.size≤b∨F b)→CallM Tryz.prog f (.int .i64 (i:Int) :: cs) w' F' (fun r A' o=>JP (pre++[i]) A'∧o=[])):CallM Tryz.prog 95 [s,.func (.func f) #[] cs.toArray] w F (fun r A o=>JP (mems x) A∧o=[]):=by
 have hml:=mems_len x
 refine specM_of Tryz.func95 rfl (leb rfl) hA ?_
 refine .sr fun _ hK1=>?_
 refine .mv rfl (.v (.lenR sl76 rfl rdp) (.mv rfl (.nt hK1 (.block ?_))))
 refine AK.loopK (X:=Nat × Asn × List Nat) [(1,_),(6,_),(7,_)] (fun z=>[(8,.int .i64 (z.1:Int))]) (fun z=>[z.2.1]) (fun z=>z.1≤1∧JP z.2.2 z.2.1∧(z.1=0→z.2.2=[])∧(z.1=1→z.2.2=mems x)) (fun z=>1 - z.1) ((0,A0,[])) slr ?_ ?_ ?_ ?_
 ·exact ⟨Nat.zero_le _,hJ0,fun _=>rfl,fun h=>absurd h Nat.zero_ne_one⟩
 ·exact slr
 ·exact fun w hw=>hw
 ·intro z hg0 _ hK2
  refine .sr fun _ hK3=>?_
  refine .v (.lss rfl rfl) (.nt hK3 ?_)
  refine .seq fun _ hK4=>?_
  refine AK.condD rfl (fun hc0=>?_) (fun hc0=>?_)
  ·have hz:z.1=0:=by omega
   refine .skip ?_
   refine AK.then_ (hK4 _ ?_)
   refine .seq fun _ hK5=>?_
   refine .block ?_
   refine .sr fun _ hK6=>?_
   refine .mv rfl ?_
   first | refine .v (.iN sl76 rfl rfl) ?_ | refine .v (.iK sl76 rfl rfl) ?_
   refine AK.val (uv x) (Yl.valE (Yl.loadU (xs:=[x]) on42 rfl rdp (by show z.1<1;omega)) (by rw [hz];rfl)) trivial rfl ?_
   refine .as rfl (.as rfl (.nt hK6 (.block ?_)))
   refine AK.loopK (X:=W64 × Asn × List Nat) [(1,_),(4,_),(6,_),(7,_),(8,_)] (fun y=>[(5,uv y.1)]) (fun y=>[y.2.1]) (fun y=>y.2.2++mems y.1=mems x∧JP y.2.2 y.2.1) (fun y=>(mems y.1).length) ((x,z.2.1,z.2.2)) slr ?_ ?_ ?_ ?_
   ·exact ⟨by dsimp only;rw [hg0.2.2.1 (by omega)];rfl,hg0.2.1⟩
   ·exact slr
   ·exact fun w hw=>hw
   ·intro y hg1 _ hK7
    refine .seq fun _ hK8=>?_
    refine .sr fun _ hK9=>?_
    refine .mv rfl (.v (.neqU (b:=0) rfl rfl) (.nt hK9 ?_))
    refine AK.condNe rfl (fun hc1=>?_) (fun hc1=>?_)
    ·have hnx:=mems_next hc1
     have hcb:=(low_bits hc1).1
     refine .skip ?_
     refine AK.then_ (hK8 _ ?_)
     refine .seq fun _ hK10=>?_
     refine .block ?_
     refine AK.region ?_
     refine .mv rfl (.mv rfl ?_)
     refine .v (.valE (Yl.shlI 0 rfl rfl (by omega) (by rw [hz];rfl) (by omega)) (show _=Value.int .i64 0 from rfl)) ?_
     refine .mv rfl ?_
     refine AK.call co108 rfl (fun w hw=>s_tz w y.1 (hT.at hw hF)) trivial rfl ?_
     rintro r o ⟨rfl,rfl⟩
     refine AK.val (.int .i64 ((Lib.ctz 64 y.1.toNat:Nat):Int)) (Yl.valE (Yl.add rfl rfl (by omega)) (by rw [Int.zero_add])) trivial rfl ?_
     refine AK.callVN 0 rfl (us:=[]) (cs:=cs) hco rfl rfl (fun w Fs hw hh hfr hal=>hv w (Fs 0) y.2.1 y.2.2 (Lib.ctz 64 y.1.toNat) (mems (y.1 &&& (y.1 - 1))) (by rw [← hnx];exact hg1.1) hg1.2 (hh.at_ 0 _ rfl) hfr (hal 0)) trivial rfl ?_
     rintro r A o ⟨hJ1,rfl⟩
     refine .nil (.block_normal ?_)
     refine AK.then_ (hK10 _ ?_)
     refine AK.region ?_
     refine .mv rfl (.mv rfl (.v (.subU (b:=1) rfl rfl) (.v (.andU rfl rfl) (.as rfl (.nil ?_)))))
     refine AK.then_ (hK7 _ _ ((y.1 &&& (y.1 - 1),A,y.2.2++[Lib.ctz 64 y.1.toNat])) ⟨by dsimp only;rw [← hg1.1,hnx,List.append_assoc];rfl,hJ1⟩ (by dsimp only;rw [hnx];simp) (slr) (fun w hw=>hw))
    ·refine .exit (.then_exit (.then_exit (.block_exit (.block_normal ?_))))
     refine AK.then_ (hK5 _ ?_)
     refine AK.region ?_
     refine .v (.add rfl rfl (by omega)) ?_
     refine .mv rfl (.nil ?_)
     refine AK.then_ (hK2 _ _ ((z.1+1,y.2.1,y.2.2)) ⟨by dsimp only;omega,hg1.2,fun h=>absurd h (by dsimp only;omega),fun _=>by have h:=hg1.1;rw [show y.1=0 by assumption,mems_zero,List.append_nil] at h;exact h⟩ (by dsimp only;omega) (slr) (fun w hw=>hw))
  ·refine .exit (.then_exit (.then_exit (.block_exit ?_)))
   refine AK.endG [] rfl (.nil) (fun w hw=>⟨_,_,_,?_,rfl,Ret.of (hw.pick [0] (by decide) rfl rfl)⟩)
   exact ⟨(hg0.2.2.2 (by omega)) ▸ hg0.2.1,rfl⟩
set_option maxHeartbeats 1000000 in
theorem s_ends1 (w:World) (F:Nat→Prop) (e:Ex) (s:Value) (wd:List UInt8) (hl:wd.length≤62) (hv:validW 6 wd=true) (i:Nat) (hi:i≤wd.length) (bm be br:Nat) (vr:Value) (hA:(bigA [box bm 75 1 [sv wd],box be 24 3 [.int .i64 e.op,.int .i64 e.lt,s],box br 79 1 [vr],row vr 76 1 (wd.length+1) (List.replicate (wd.length+1) nilV)]).holds w F):CallM Tryz.prog 96 [.int .i64 (i:Int),.pointer (some ⟨bm,0,none⟩),.pointer (some ⟨br,0,none⟩),.pointer (some ⟨be,0,none⟩)] w F (fun r A o=>∃ nv,IsSl nv∧A=bigA [box bm 75 1 [sv wd],box be 24 3 [.int .i64 e.op,.int .i64 e.lt,s],box br 79 1 [vr],row vr 76 1 (wd.length+1) ((List.replicate (wd.length+1) nilV).set i nv),row nv 42 1 1 ([leafS e wd i].map uv)]∧o=[]):=by
 refine specM_of' Tryz.func96 rfl (leb rfl) hA ?_
 refine .seq fun _ hK1=>?_
 try (conv=>enter [2,2];simp only [nrm])
 refine AK.held 5 mixed ?_
 refine HeldK.first 0 (fuel:=5) (listed':=(lb 6 1)) _ rfl krf krf rfl (Yl.loadBox on79 rfl bsp rfl) trivial rfl ?_
 refine HeldK.first 1 (fuel:=4) (listed':=(lb 6 3)) _ rfl krf krf rfl (Yl.move rfl) trivial rfl ?_
 refine HeldK.first 2 (fuel:=3) (listed':=(lb 6 7)) _ rfl krf krf rfl (Yl.loadBoxG ag75 rfl bsp rfl rfl) trivial rfl ?_
 refine HeldK.one 3 (fuel:=2) (listed':=(lb 6 15)) krf rfl krf ?_
 refine AK.call co39 rfl (fun w hw=>s_onone w wd hl) trivial rfl ?_
 rintro nv o ⟨snv,rfl⟩
 refine .nil ?_
 try (conv=>enter [2,2];simp only [nrm])
 refine HeldK.back Go.Sx.hle ?_
 first | refine HeldK.first 4 (fuel:=1) (listed':=(lb 6 31)) _ rfl krf krf rfl (.iN sl79 rfl rfl) trivial rfl ?_ | refine HeldK.first 4 (fuel:=1) (listed':=(lb 6 31)) _ rfl krf krf rfl (.iK sl79 rfl rfl) trivial rfl ?_
 refine HeldK.one 5 (fuel:=0) (listed':=(lb 6 63)) krf rfl krf ?_
 refine AK.store1 3 rfl sz76 rfl rfl (IsSl.cells snv) (IsSl.one snv) (by omega) trivial ?_
 refine .nil ?_
 try (conv=>enter [2,2];simp only [nrm])
 refine HeldK.backN 6 krf rfl krf ?_
 refine .nil ?_
 refine AK.fromQn ?_
 refine AK.then_ (hK1 _ ?_)
 refine .block ?_
 refine .sr fun _ hK2=>?_
 refine .v (.fieldAddr fd24_0 rfl) (.v (.loadBox on3 rfl bsp rfl) (.v (.eql rfl rfl) (.as rfl (.nt hK2 ?_))))
 refine AK.condD rfl (fun hc0=>?_) (fun hc0=>?_)
 ·refine AK.region ?_
  refine .v (.loadBox on79 rfl bsp rfl) (.mv rfl ?_)
  first | refine .v (.iN sl79 rfl rfl) ?_ | refine .v (.iK sl79 rfl rfl) ?_
  refine AK.val nv (Yl.valE (Yl.loadV on76 rfl rdp (by rw [List.length_set,List.length_replicate];omega)) (rep_get (by omega))) trivial rfl ?_
  refine .mv rfl ?_
  refine AK.callN 4 rfl co40 rfl (fun w Fs hw hh hfr hal=>s_oadd w (Fs 4) nv 0 i (by omega) (hh.at_ 4 _ rfl)) trivial rfl ?_
  rintro r A o ⟨rfl,rfl⟩
  refine .nil (.block_normal ?_)
  refine AK.endG [] rfl (.nil) (fun w hw=>⟨_,_,_,?_,rfl,Ret.ofBig0 hw⟩)
  refine ⟨nv,snv,?_,rfl⟩
  first | (rw [show leafS e wd i=0 ||| (1:W64) <<< i from if_pos hc0] <;> rfl) | (rw [show leafS e wd i=0 ||| (1:W64) <<< (i+1) from by unfold leafS;rw [if_neg hc0,if_pos (by first | omega | grind)]] <;> rfl) | (rw [show leafS e wd i=0 from by unfold leafS;rw [if_neg hc0,if_neg (by first | omega | grind)]] <;> rfl)
 ·refine .seq fun _ hK3=>?_
  refine AK.quiet mixed krf ?_
  refine .v (.fieldAddr fd24_0 rfl) (.v (.loadBox on3 rfl bsp rfl) (.v (.eql rfl rfl) (.mv rfl ?_)))
  refine QK.splitB (g:=24) rfl (fun hg_3_3=>?_) (fun hg_3_3=>?_)
  ·have hg_3_3':=hg_3_3
   try simp only [bs] at hg_3_3'
   refine QK.val _ (Yl.move rfl) ⟨_,rfl,gB hg_3_3⟩ rfl ?_
   refine QK.val _ (Yl.fieldAddr fd75_0 rfl) ⟨_,rfl,gB hg_3_3⟩ rfl ?_
   refine QK.val _ (Yl.loadBox on9 rfl bsp rfl) ⟨_,rfl,gB hg_3_3⟩ rfl ?_
   refine QK.val _ (Yl.lenS un9 rfl) ⟨_,rfl,gB hg_3_3⟩ rfl ?_
   refine QK.val _ (Yl.lss rfl rfl) ⟨_,rfl,gB hg_3_3⟩ rfl ?_
   refine .v (.pickT rfl (hg_3_3) rfl) (.mv rfl ?_)
   refine QK.splitB (g:=31) rfl (fun hg_3_10=>?_) (fun hg_3_10=>?_)
   ·have hg_3_10':=hg_3_10
    try simp only [bs] at hg_3_10'
    refine QK.val _ (Yl.fieldAddr fd75_0 rfl) ⟨_,rfl,gB hg_3_10⟩ rfl ?_
    refine QK.val _ (Yl.loadBox on9 rfl bsp rfl) ⟨_,rfl,gB hg_3_10⟩ rfl ?_
    refine QK.val _ (Yl.move rfl) ⟨_,rfl,gB hg_3_10⟩ rfl ?_
    first | refine QK.val _ (Yl.idxSN un9 rfl rfl (by omega)) ⟨_,rfl,gB hg_3_10⟩ rfl ?_ | refine QK.val _ (Yl.idxS un9 rfl rfl (by omega)) ⟨_,rfl,gB hg_3_10⟩ rfl ?_
    refine QK.val _ (Yl.subU8 rfl rfl (by have:=valid97 hv (i:=i) (by omega);omega)) ⟨_,rfl,gB hg_3_10⟩ rfl ?_
    refine QK.val _ (Yl.convI (by kernel_rfl) un3 rfl (wrap_i64 (by have:=valid97 hv (i:=i) (by omega);omega))) ⟨_,rfl,gB hg_3_10⟩ rfl ?_
    refine QK.val _ (Yl.fieldAddr fd24_1 rfl) ⟨_,rfl,gB hg_3_10⟩ rfl ?_
    refine QK.val _ (Yl.loadBox on3 rfl bsp rfl) ⟨_,rfl,gB hg_3_10⟩ rfl ?_
    refine QK.val _ (Yl.eql rfl rfl) ⟨_,rfl,gB hg_3_10⟩ rfl ?_
    refine .v (.pickT rfl (hg_3_10) rfl) (.as rfl ?_)
    refine QK.nil (QK.fin ?_)
    refine AK.then_ (hK3 _ ?_)
    refine AK.condD rfl (fun hc1=>?_) (fun hc1=>?_)
    ·refine AK.region ?_
     refine .v (.loadBox on79 rfl bsp rfl) (.mv rfl ?_)
     first | refine .v (.iN sl79 rfl rfl) ?_ | refine .v (.iK sl79 rfl rfl) ?_
     refine AK.val nv (Yl.valE (Yl.loadV on76 rfl rdp (by rw [List.length_set,List.length_replicate];omega)) (rep_get (by omega))) trivial rfl ?_
     refine .mv rfl ?_
     refine .v (.add rfl rfl (by omega)) ?_
     refine AK.callN 4 rfl co40 rfl (fun w Fs hw hh hfr hal=>s_oadd w (Fs 4) nv 0 (i+1) (by omega) (hh.at_ 4 _ rfl)) trivial rfl ?_
     rintro r A o ⟨rfl,rfl⟩
     refine .nil (.block_normal ?_)
     refine AK.endG [] rfl (.nil) (fun w hw=>⟨_,_,_,?_,rfl,Ret.ofBig0 hw⟩)
     refine ⟨nv,snv,?_,rfl⟩
     first | (rw [show leafS e wd i=0 ||| (1:W64) <<< i from if_pos hc0] <;> rfl) | (rw [show leafS e wd i=0 ||| (1:W64) <<< (i+1) from by unfold leafS;rw [if_neg hc0,if_pos (by first | omega | grind)]] <;> rfl) | (rw [show leafS e wd i=0 from by unfold leafS;rw [if_neg hc0,if_neg (by first | omega | grind)]] <;> rfl)
    ·refine .skip (.block_normal ?_)
     refine AK.endG [] rfl (.nil) (fun w hw=>⟨_,_,_,?_,rfl,Ret.ofBig0 hw⟩)
     refine ⟨nv,snv,?_,rfl⟩
     first | (rw [show leafS e wd i=0 ||| (1:W64) <<< i from if_pos hc0] <;> rfl) | (rw [show leafS e wd i=0 ||| (1:W64) <<< (i+1) from by unfold leafS;rw [if_neg hc0,if_pos (by first | omega | grind)]] <;> rfl) | (rw [show leafS e wd i=0 from by unfold leafS;rw [if_neg hc0,if_neg (by first | omega | grind)]] <;> rfl)
   ·have hg_3_10':=hg_3_10
    try simp only [bs] at hg_3_10'
    refine QK.pass rfl rfl (hg_3_10) rfl ?_
    refine QK.pass rfl rfl (hg_3_10) rfl ?_
    refine QK.pass rfl rfl (hg_3_10) rfl ?_
    refine QK.pass rfl rfl (hg_3_10) rfl ?_
    refine QK.pass rfl rfl (hg_3_10) rfl ?_
    refine QK.pass rfl rfl (hg_3_10) rfl ?_
    refine QK.pass rfl rfl (hg_3_10) rfl ?_
    refine QK.pass rfl rfl (hg_3_10) rfl ?_
    refine QK.pass rfl rfl (hg_3_10) rfl ?_
    refine .v (.pickF rfl (hg_3_10) rfl) (.as rfl ?_)
    refine QK.nil (QK.fin ?_)
    refine AK.then_ (hK3 _ ?_)
    refine AK.cond_f rfl (rfl) ?_
    refine .skip (.block_normal ?_)
    refine AK.endG [] rfl (.nil) (fun w hw=>⟨_,_,_,?_,rfl,Ret.ofBig0 hw⟩)
    refine ⟨nv,snv,?_,rfl⟩
    first | (rw [show leafS e wd i=0 ||| (1:W64) <<< i from if_pos hc0] <;> rfl) | (rw [show leafS e wd i=0 ||| (1:W64) <<< (i+1) from by unfold leafS;rw [if_neg hc0,if_pos (by first | omega | grind)]] <;> rfl) | (rw [show leafS e wd i=0 from by unfold leafS;rw [if_neg hc0,if_neg (by first | omega | grind)]] <;> rfl)
  ·have hg_3_3':=hg_3_3
   try simp only [bs] at hg_3_3'
   refine QK.pass rfl rfl (hg_3_3) rfl ?_
   refine QK.pass rfl rfl (hg_3_3) rfl ?_
   refine QK.pass rfl rfl (hg_3_3) rfl ?_
   refine QK.pass rfl rfl (hg_3_3) rfl ?_
   refine QK.pass rfl rfl (hg_3_3) rfl ?_
   refine .v (.pickF rfl (hg_3_3) rfl) (.mv rfl ?_)
   refine QK.pass rfl rfl rfl rfl ?_
   refine QK.pass rfl rfl rfl rfl ?_
   refine QK.pass rfl rfl rfl rfl ?_
   refine QK.pass rfl rfl rfl rfl ?_
   refine QK.pass rfl rfl rfl rfl ?_
   refine QK.pass rfl rfl rfl rfl ?_
   refine QK.pass rfl rfl rfl rfl ?_
   refine QK.pass rfl rfl rfl rfl ?_
   refine QK.pass rfl rfl rfl rfl ?_
   refine .v (.pickF rfl (rfl) rfl) (.as rfl ?_)
   refine QK.nil (QK.fin ?_)
   refine AK.then_ (hK3 _ ?_)
   refine AK.cond_f rfl (rfl) ?_
   refine .skip (.block_normal ?_)
   refine AK.endG [] rfl (.nil) (fun w hw=>⟨_,_,_,?_,rfl,Ret.ofBig0 hw⟩)
   refine ⟨nv,snv,?_,rfl⟩
   first | (rw [show leafS e wd i=0 ||| (1:W64) <<< i from if_pos hc0] <;> rfl) | (rw [show leafS e wd i=0 ||| (1:W64) <<< (i+1) from by unfold leafS;rw [if_neg hc0,if_pos (by first | omega | grind)]] <;> rfl) | (rw [show leafS e wd i=0 from by unfold leafS;rw [if_neg hc0,if_neg (by first | omega | grind)]] <;> rfl)
theorem leaf_visit (e:Ex) (s:Value) (wd:List UInt8) (hl:wd.length≤62) (hv:validW 6 wd=true) (bm be br:Nat) (vr:Value) (x:W64) (hx:mems x=[0]) (w:World) (F:Nat→Prop) (A:Asn) (pre:List Nat) (i:Nat) (post:List Nat) (hp:pre++i :: post=mems x) (hJ:(fun (l:List Nat) (A:Asn)=>(l=[]∧A=bigA [box bm 75 1 [sv wd],box be 24 3 [.int .i64 e.op,.int .i64 e.lt,s],box br 79 1 [vr],row vr 76 1 (wd.length+1) (List.replicate (wd.length+1) nilV)])∨(l=[0]∧∃ nv,IsSl nv∧A=bigA [box bm 75 1 [sv wd],box be 24 3 [.int .i64 e.op,.int .i64 e.lt,s],box br 79 1 [vr],row vr 76 1 (wd.length+1) ((List.replicate (wd.length+1) nilV).set 0 nv),row nv 42 1 1 ([leafS e wd 0].map uv)])) pre A) (hA:A.holds w F) :
  CallM Tryz.prog 96 [.int .i64 (i:Int),.pointer (some ⟨bm,0,none⟩),.pointer (some ⟨br,0,none⟩),.pointer (some ⟨be,0,none⟩)] w F (fun r A' o=>(fun (l:List Nat) (A:Asn)=>(l=[]∧A=bigA [box bm 75 1 [sv wd],box be 24 3 [.int .i64 e.op,.int .i64 e.lt,s],box br 79 1 [vr],row vr 76 1 (wd.length+1) (List.replicate (wd.length+1) nilV)])∨(l=[0]∧∃ nv,IsSl nv∧A=bigA [box bm 75 1 [sv wd],box be 24 3 [.int .i64 e.op,.int .i64 e.lt,s],box br 79 1 [vr],row vr 76 1 (wd.length+1) ((List.replicate (wd.length+1) nilV).set 0 nv),row nv 42 1 1 ([leafS e wd 0].map uv)])) (pre++[i]) A'∧o=[]):=by
 rw [hx] at hp
 obtain ⟨rfl,rfl,rfl⟩:pre=[]∧i=0∧post=[]:=by
  cases pre with
  | nil=>simpa using hp
  | cons a t=>simp at hp
 obtain ⟨_,rfl⟩:_∧_:=by
  rcases hJ with h | ⟨h,_⟩
  ·exact h
  ·cases h
 refine (s_ends1 w F e s wd hl hv 0 (Nat.zero_le _) bm be br vr hA).mono ?_
 rintro E w' ⟨v,A',own',⟨nv,snv,hA',ho⟩,h1,h2⟩
 exact ⟨v,A',own',⟨.inr ⟨rfl,nv,snv,hA'⟩,ho⟩,h1,h2⟩
set_option maxHeartbeats 1000000 in
theorem s_ends (w:World) (e:Ex) (s:Value) (wd:List UInt8) (hl:wd.length≤62) (hv:validW 6 wd=true) (hlf:leafOp e) (f:Value) (x:W64) (hx:mems x=[0]) (hr:RdL (fun _=>False) uv w f [x]) (hT:TbA w):CallS Tryz.prog 41 [.agg #[sv wd],.agg #[.int .i64 e.op,.int .i64 e.lt,s],f] w (fun r o=>∃ nv,IsSl nv∧o=[row r 76 1 (wd.length+1) ((List.replicate (wd.length+1) nilV).set 0 nv),row nv 42 1 1 ([leafS e wd 0].map uv)]):=by
 obtain ⟨n4,n5,n6,n7,n8⟩:=hlf
 refine spec_of Tryz.func41 rfl (leb rfl) ?_
 refine .sr fun _ hK1=>?_
 refine AK.box_ (E:=75) (cs:=[sv wd]) rfl rfl rfl trivial rfl (fun bx3=>?_)
 refine AK.box_ (E:=24) (cs:=[.int .i64 e.op,.int .i64 e.lt,s]) rfl rfl rfl trivial rfl (fun bx4=>?_)
 refine .as rfl (.nt hK1 ?_)
 refine .seq fun _ hK2=>?_
 refine .sr fun _ hK3=>?_
 refine .v (.fieldAddr fd24_0 rfl) (.v (.loadBox on3 rfl bsp rfl) (.nt hK3 (.block ?_)))
 refine .sr fun _ hK4=>?_
 refine .v (.eql rfl rfl) (.as rfl (.nt hK4 ?_))
 refine AK.cond_f rfl (decide_eq_false n5) ?_
 refine .sr fun _ hK5=>?_
 refine .v (.eql rfl rfl) (.as rfl (.nt hK5 ?_))
 refine AK.cond_f rfl (decide_eq_false n7) ?_
 refine .seq fun _ hK6=>?_
 refine .sr fun _ hK7=>?_
 refine .v (.eql rfl rfl) (.as rfl (.nt hK7 ?_))
 refine AK.cond_f rfl (decide_eq_false n4) ?_
 refine AK.region ?_
 refine .v (.eql rfl rfl) (.as rfl (.nt hK6 ?_))
 refine AK.cond_f rfl (decide_eq_false n6) ?_
 refine .sr fun _ hK8=>?_
 refine .v (.eql rfl rfl) (.as rfl (.nt hK8 ?_))
 refine AK.cond_f rfl (decide_eq_false n8) ?_
 refine .skip (.block_normal ?_)
 refine AK.then_ (hK2 _ ?_)
 refine .sr fun _ hK9=>?_
 refine .v (.fieldAddr fd75_0 rfl) (.v (.loadBox on9 rfl bsp rfl) (.v (.lenS un9 rfl) ?_))
 refine AK.val (.int .i64 ((wd.length+1:Nat):Int)) (Yl.addE (wd.length+1) rfl rfl (by omega) (by omega)) trivial rfl ?_
 refine AK.make1 sl79 el76 rfl rfl rfl (by omega) (by omega) trivial rfl (fun mv0=>?_)
 refine AK.shape 2 rfl (fun smv=>?_)
 refine AK.alloc el79 rfl rfl trivial rfl (fun bx7=>?_)
 refine AK.storeBox 3 (us:=[mv0]) (cs':=[mv0]) rfl sz79 rfl rfl (by rw [IsSl.cells smv]) rfl oneP (leb rfl) rfl trivial ?_
 refine .nt hK9 ?_
 refine .sr fun _ hK10=>?_
 refine .mv rfl (.v (.makeFunc (first:=[]) (captured:=[.tmp 3,.tmp 7,.tmp 4]) rfl rfl) ?_)
 refine AK.own' [bigA [box bx3 75 1 [sv wd],box bx4 24 3 [.int .i64 e.op,.int .i64 e.lt,s],box bx7 79 1 [mv0],row mv0 76 1 (wd.length+1) (List.replicate (wd.length+1) nilV)]] (fun w hw=>by have h:=HW.unflat (l:=[box bx3 75 1 [sv wd],box bx4 24 3 [.int .i64 e.op,.int .i64 e.lt,s],box bx7 79 1 [mv0],row mv0 76 1 (wd.length+1) (List.replicate (wd.length+1) nilV)]) (own:=[]) (hw.pick [0,1,3,2] (by decide) rfl rfl);exact h) ?_
 refine AK.callN 0 rfl co95 rfl (fun w Fs hw hh hfr hal=>s_oeach w (Fs 0) (fun (l:List Nat) (A:Asn)=>(l=[]∧A=bigA [box bx3 75 1 [sv wd],box bx4 24 3 [.int .i64 e.op,.int .i64 e.lt,s],box bx7 79 1 [mv0],row mv0 76 1 (wd.length+1) (List.replicate (wd.length+1) nilV)])∨(l=[0]∧∃ nv,IsSl nv∧A=bigA [box bx3 75 1 [sv wd],box bx4 24 3 [.int .i64 e.op,.int .i64 e.lt,s],box bx7 79 1 [mv0],row mv0 76 1 (wd.length+1) ((List.replicate (wd.length+1) nilV).set 0 nv),row nv 42 1 1 ([leafS e wd 0].map uv)])) (bigA [box bx3 75 1 [sv wd],box bx4 24 3 [.int .i64 e.op,.int .i64 e.lt,s],box bx7 79 1 [mv0],row mv0 76 1 (wd.length+1) (List.replicate (wd.length+1) nilV)]) (.inl ⟨rfl,rfl⟩) (hh.at_ 0 _ rfl) f x (RdL.off (f:=uv) (xs:=[x]) hr hfr hal) (hT.at hw) (fun h0=>by rcases hal 0 0 h0 with h | h;exact absurd h (Nat.not_le.2 hT.lt);exact h) 96 [.pointer (some ⟨bx3,0,none⟩),.pointer (some ⟨bx7,0,none⟩),.pointer (some ⟨bx4,0,none⟩)] co96 (fun w' F' A pre i post hp hJ hA _ _=>leaf_visit e s wd hl hv bx3 bx4 bx7 mv0 x hx w' F' A pre i post hp hJ hA)) trivial rfl ?_
 rintro r A o ⟨hJ,rfl⟩
 obtain ⟨nv,snv,rfl⟩:∃ nv,IsSl nv∧A=bigA [box bx3 75 1 [sv wd],box bx4 24 3 [.int .i64 e.op,.int .i64 e.lt,s],box bx7 79 1 [mv0],row mv0 76 1 (wd.length+1) ((List.replicate (wd.length+1) nilV).set 0 nv),row nv 42 1 1 ([leafS e wd 0].map uv)]:=by
  rcases hJ with ⟨h,_⟩ | ⟨_,h⟩
  ·rw [hx] at h;cases h
  ·exact h
 refine AK.flat0 rfl ?_
 refine .nt hK10 ?_
 refine .sr fun _ hK11=>?_
 refine .v (.loadBox on79 rfl bsp rfl) (.as rfl (.nt hK11 (.ret ?_)))
 refine AK.ret1 rfl rfl (fun w hw=>⟨_,_,?_,rfl,Ret.of (hw.pick [3,4] (by decide) rfl rfl)⟩)
 exact ⟨nv,snv,rfl⟩
set_option maxHeartbeats 1000000 in
theorem s_match (w:World) (e:Ex) (s:Value) (h:RdK (cellR (fun _=>False) w) s e.kids) (wd:List UInt8) (hl:wd.length≤62) (hv:validW 6 wd=true) (he:validE e 6=0) (hlf:leafOp e) (hT:TbA w):CallS Tryz.prog 10 [.agg #[.int .i64 e.op,.int .i64 e.lt,s],sv wd] w (fun r o=>r = .bool ((leafS e wd 0).getLsbD wd.length)∧o=[]):=by
 refine spec_of Tryz.func10 rfl (leb rfl) ?_
 refine .sr fun _ hK1=>?_
 refine AK.box_ (E:=24) (cs:=[.int .i64 e.op,.int .i64 e.lt,s]) rfl rfl rfl trivial rfl (fun bx2=>?_)
 refine .as rfl (.nt hK1 ?_)
 refine .seq fun _ hK2=>?_
 refine .sr fun _ hK3=>?_
 refine .v (.loadBoxG ag24 rfl bsp rfl rfl) ?_
 refine AK.call co37 rfl (fun w hw=>s_val6 w e s (h.at hw)) trivial rfl ?_
 rintro r o ⟨rfl,rfl⟩
 refine .v (.not rfl) (.mv rfl ?_)
 refine AK.knownF (g:=10) rfl (by rw [he];rfl) (fun hg_1_3=>?_)
 refine AK.val _ (Yl.move rfl) ⟨_,rfl,gB hg_1_3⟩ rfl ?_
 refine AK.call co38 rfl (fun w hw=>s_wvalid w wd 6 (by omega)) ⟨_,rfl,gB hg_1_3⟩ rfl ?_
 rintro r o ⟨rfl,rfl⟩
 refine AK.val _ (Yl.not rfl) ⟨_,rfl,gB hg_1_3⟩ rfl ?_
 refine .v (.pickF rfl (hg_1_3) rfl) (.nt hK3 ?_)
 refine AK.cond_f rfl (by rw [hv];rfl) ?_
 refine .skip ?_
 refine AK.then_ (hK2 _ ?_)
 refine .sr fun _ hK4=>?_
 refine .mv rfl ?_
 refine .v (.build (parts:=[(0,.tmp 15)]) (cs:=#[sv wd]) rfl (by kernel_rfl)) ?_
 refine AK.alloc el75 rfl rfl trivial rfl (fun bx5=>?_)
 refine AK.storeBox 1 (us:=[sv wd]) (cs':=[sv wd]) rfl sz75 rfl rfl rfl rfl oneP (leb rfl) rfl trivial ?_
 refine .nt hK4 ?_
 refine .sr fun _ hK5=>?_
 refine .v (.loadBoxG ag75 rfl bsp rfl rfl) ?_
 refine AK.call co39 rfl (fun w hw=>s_onone w wd hl) trivial rfl ?_
 rintro fv o ⟨sfv,rfl⟩
 refine .as rfl (.nt hK5 ?_)
 refine .sr fun _ hK6=>?_
 refine .mv rfl ?_
 refine AK.callN 2 rfl co40 rfl (fun w Fs hw hh hfr hal=>s_oadd w (Fs 2) fv 0 0 (by omega) (hh.at_ 2 _ rfl)) trivial rfl ?_
 rintro r A o ⟨rfl,rfl⟩
 refine .nt hK6 ?_
 refine .sr fun _ hK7=>?_
 refine .v (.loadBoxG ag75 rfl bsp rfl rfl) (.v (.loadBoxG ag24 rfl bsp rfl rfl) (.mv rfl ?_))
 refine AK.call co41 rfl (fun w hw=>s_ends w e s wd hl hv hlf fv (0 ||| (1:W64) <<< 0) (by decide +kernel) (Rd.mono (RdS.own 2 rfl w hw) (fun b _ _=>⟨id,rfl⟩)) (hT.at hw)) trivial rfl ?_
 rintro rv o ⟨nv,snv,rfl⟩
 refine .v (.idxN (k:=0) sl79 rfl rfl rdp (by decide) (by omega)) ?_
 refine AK.val nv (Yl.valE (Yl.loadV on76 rfl rdp (by rw [List.length_set,List.length_replicate];omega)) (rep_get (by omega))) trivial rfl ?_
 refine .mv rfl (.v (.lenS un9 rfl) ?_)
 refine AK.call co42 rfl (fun w hw=>s_ohas w nv (leafS e wd 0) wd.length (by omega) (Rd.mono (RdS.own 4 rfl w hw) (fun b _ _=>⟨id,rfl⟩))) trivial rfl ?_
 rintro r o ⟨rfl,rfl⟩
 refine .as rfl (.nt hK7 (.ret ?_))
 refine AK.ret1 rfl rfl (fun w hw=>⟨_,_,?_,rfl,Ret.of (hw.pick [] (by decide) rfl rfl)⟩)
 exact ⟨rfl,rfl⟩
end Go.Proofs.YtbibnpdnmmgacaaGreatDoor
namespace Go.Proofs.YtbibnpdnmmgacaaGreatDoor
open Go.Sx Go.RowKit
set_option maxHeartbeats 1000000 in
theorem s_members (w:World) (s:W64) (hT:TbA w):CallS Tryz.prog 56 [uv s] w (fun r o=>IsSl r∧o=[row r 3 1 (mems s).length ((mI (mems s)).map (Value.int .i64))]):=by
 refine spec_of Tryz.func56 rfl (leb rfl) ?_
 refine .sr fun _ hK1=>?_
 refine .as rfl (.nt hK1 ?_)
 refine .sr fun _ hK2=>?_
 refine .as rfl (.nt hK2 ?_)
 refine .seq fun _ hK3=>?_
 refine .block ?_
 refine AK.loopK (X:=W64 × Value × List Nat) [] (fun x=>[(0,uv x.1),(3,x.2.1)]) (fun x=>[row x.2.1 3 1 x.2.2.length ((mI x.2.2).map (Value.int .i64))]) (fun x=>x.2.2++mems x.1=mems s∧IsSl x.2.1) (fun x=>(mems x.1).length) ((s,.slice none 0 0,[])) slr ?_ ?_ ?_ ?_
 ·exact ⟨rfl,nilSl⟩
 ·exact slr
 ·exact fun w hw=>by exact hw.ghost 3 1
 ·intro x hg0 _ hK4
  have sx:=hg0.2
  refine .seq fun _ hK5=>?_
  refine .sr fun _ hK6=>?_
  refine .mv rfl (.v (.neqU (b:=0) rfl rfl) (.nt hK6 ?_))
  refine AK.condNe rfl (fun hc0=>?_) (fun hc0=>?_)
  ·have hnx:=mems_next hc0
   have hml:=mems_len s
   rw [← hg0.1,hnx,List.length_append,List.length_cons] at hml
   refine .skip ?_
   refine AK.then_ (hK5 _ ?_)
   refine .seq fun _ hK7=>?_
   refine .block ?_
   refine AK.region ?_
   refine .mv rfl (.mv rfl ?_)
   refine AK.call co108 rfl (fun w hw=>s_tz w x.1 (hT.at hw)) trivial rfl ?_
   rintro r o ⟨rfl,rfl⟩
   refine AK.append1 0 rfl sl67 el3 rfl (by decide) rfl (by intro k hk;cases hk;rfl) rfl (by intro u hu;simp [Value.cells] at hu;subst hu;rfl) (by omega) (by omega) (by decide) rfl rfl (fun va _ ha=>?_)
   refine .as rfl (.nil (.block_normal ?_))
   refine AK.then_ (hK7 _ ?_)
   refine AK.region ?_
   refine .mv rfl (.mv rfl (.v (.subU (b:=1) rfl rfl) (.v (.andU rfl rfl) (.as rfl (.nil ?_)))))
   refine AK.then_ (hK4 _ _ ((x.1 &&& (x.1 - 1),va,x.2.2++[Lib.ctz 64 x.1.toNat])) ⟨by dsimp only;rw [← hg0.1,hnx,List.append_assoc];rfl,ha⟩ (by dsimp only;rw [hnx];simp) (slr) (fun w hw=>by dsimp only;rw [mI_app,List.length_append,List.map_append];exact hw))
  ·refine .exit (.then_exit (.then_exit (.block_exit ?_)))
   refine AK.then_ (hK3 _ ?_)
   refine .sr fun _ hK8=>?_
   refine .mv rfl (.as rfl (.nt hK8 (.ret ?_)))
   refine AK.ret1 rfl rfl (fun w hw=>⟨_,_,?_,rfl,Ret.of (hw.pick [0] (by decide) rfl rfl)⟩)
   have e:x.2.2=mems s:=(by rw [← hg0.1,hc0,mems_zero,List.append_nil])
   rw [← e]
   exact ⟨hg0.2,rfl⟩
theorem s_relvalid (w:World) (v:Value) (rs:List W64) (h:RdL (fun _=>False) uv w v rs) (hl:rs.length≤64) (hr:∀ j,j<rs.length→rs.getD j 0 &&& ~~~(below (rs.length:Int))=0):CallS Tryz.prog 114 [v] w (fun r o=>r = .bool true∧o=[]):=by
 unfold RdL at h
 have hb:=Rd.le h
 refine spec_of Tryz.func114 rfl (leb rfl) ?_
 refine .sr fun _ hK1=>?_
 refine .as rfl (.nt hK1 ?_)
 refine .seq fun _ hK2=>?_
 refine .sr fun _ hK3=>?_
 refine .mv rfl (.v (.lenR sl64 rfl rdp) (.v (.gtr rfl rfl) (.nt hK3 ?_)))
 refine AK.cond_f rfl (decide_eq_false (by omega)) ?_
 refine .skip ?_
 refine AK.then_ (hK2 _ ?_)
 refine .seq fun _ hK4=>?_
 refine .sr fun _ hK5=>?_
 refine .mv rfl (.v (.lenR sl64 rfl rdp) (.mv rfl (.nt hK5 (.block ?_))))
 refine AK.loopK (X:=Nat) [(0,_),(8,_),(9,_)] (fun k=>[(10,.int .i64 (k:Int))]) (fun k=>[]) (fun k=>k≤rs.length) (fun k=>rs.length - k) (0) slr ?_ ?_ ?_ ?_
 ·exact Nat.zero_le _
 ·exact slr
 ·exact fun w hw=>hw
 ·intro k hg0 _ hK6
  refine .sr fun _ hK7=>?_
  refine .v (.lss rfl rfl) (.nt hK7 ?_)
  refine .seq fun _ hK8=>?_
  refine AK.condD rfl (fun hc1=>?_) (fun hc1=>?_)
  ·refine .skip ?_
   refine AK.then_ (hK8 _ ?_)
   refine .seq fun _ hK9=>?_
   refine .block ?_
   refine .sr fun _ hK10=>?_
   first | refine .v (.iN sl64 rfl rfl) ?_ | refine .v (.iK sl64 rfl rfl) ?_
   refine .v (.loadU on42 rfl rdp (by omega)) ?_
   refine .as rfl (.nt hK10 ?_)
   refine .sr fun _ hK11=>?_
   refine .mv rfl (.mv rfl (.v (.lenR sl64 rfl rdp) ?_))
   refine AK.call co115 rfl (fun w hw=>s_points w (rs.length:Int) (by omega)) trivial rfl ?_
   rintro r o ⟨rfl,rfl⟩
   refine .v (.andNotU rfl rfl) (.v (.neqU (b:=0) rfl rfl) (.nt hK11 ?_))
   refine AK.cond_f rfl (decide_eq_false (not_not_intro (hr k (by omega)))) ?_
   refine .skip (.block_normal ?_)
   refine AK.then_ (hK9 _ ?_)
   refine AK.region ?_
   refine .v (.add rfl rfl (by omega)) ?_
   refine .mv rfl (.nil ?_)
   refine AK.then_ (hK6 _ _ (k+1) (by omega) (by omega) (slr) (fun w hw=>hw))
  ·refine .exit (.then_exit (.then_exit (.block_exit ?_)))
   refine AK.then_ (hK4 _ ?_)
   refine .sr fun _ hK12=>?_
   refine .as rfl (.nt hK12 (.ret ?_))
   refine AK.ret1 rfl rfl (fun w hw=>⟨_,_,?_,rfl,Ret.of (hw.pick [] (by decide) rfl rfl)⟩)
   exact ⟨rfl,rfl⟩
set_option maxHeartbeats 1000000 in
theorem s_image (w:World) (v:Value) (rs:List W64) (h:RdL (fun _=>False) uv w v rs) (hl:rs.length≤64) (hr:∀ j,j<rs.length→rs.getD j 0 &&& ~~~(below (rs.length:Int))=0) (s:W64) (hT:TbA w):CallS Tryz.prog 61 [v,uv s] w (fun r o=>r=uv (imgN rs s)∧o=[]):=by
 have h0:=h
 unfold RdL at h
 have hb:=Rd.le h
 have hml:=mems_len (s &&& below (rs.length:Int))
 refine spec_of Tryz.func61 rfl (leb rfl) ?_
 refine .sr fun _ hK1=>?_
 refine .as rfl (.nt hK1 ?_)
 refine .seq fun _ hK2=>?_
 refine .sr fun _ hK3=>?_
 refine .mv rfl ?_
 refine AK.call co114 rfl (fun w hw=>s_relvalid w v rs (RdL.at h0 hw) hl hr) trivial rfl ?_
 rintro r o ⟨rfl,rfl⟩
 refine .v (.not rfl) (.nt hK3 ?_)
 refine AK.cond_f rfl (rfl) ?_
 refine .skip ?_
 refine AK.then_ (hK2 _ ?_)
 refine .sr fun _ hK4=>?_
 refine .as rfl (.nt hK4 ?_)
 refine .seq fun _ hK5=>?_
 refine .sr fun _ hK6=>?_
 refine .mv rfl (.mv rfl (.v (.lenR sl64 rfl rdp) ?_))
 refine AK.call co115 rfl (fun w hw=>s_points w (rs.length:Int) (by omega)) trivial rfl ?_
 rintro r o ⟨rfl,rfl⟩
 refine .v (.andU rfl rfl) ?_
 refine AK.call co56 rfl (fun w hw=>s_members w (s &&& below (rs.length:Int)) (hT.at hw)) trivial rfl ?_
 rintro mv o ⟨smv,rfl⟩
 refine .v (.lenR sl67 rfl rdp) (.mv rfl (.nt hK6 (.block ?_)))
 refine AK.loopK (X:=Nat) [(0,_),(16,_),(17,_)] (fun k=>[(5,uv (imgL rs 0 ((mems (s &&& below (rs.length:Int))).take k))),(18,.int .i64 (k:Int))]) (fun k=>[row mv 3 1 (mems (s &&& below (rs.length:Int))).length ((mI (mems (s &&& below (rs.length:Int)))).map (Value.int .i64))]) (fun k=>k≤(mems (s &&& below (rs.length:Int))).length) (fun k=>(mems (s &&& below (rs.length:Int))).length - k) (0) slr ?_ ?_ ?_ ?_
 ·exact Nat.zero_le _
 ·exact slr
 ·exact fun w hw=>hw
 ·intro k hg0 _ hK7
  refine .sr fun _ hK8=>?_
  refine .v (.lss rfl rfl) (.nt hK8 ?_)
  refine .seq fun _ hK9=>?_
  refine AK.condD rfl (fun hc1=>?_) (fun hc1=>?_)
  ·have hqm:=mem_lt (s:=s) hl (k:=k) (by omega)
   refine .skip ?_
   refine AK.then_ (hK9 _ ?_)
   refine .seq fun _ hK10=>?_
   refine .block ?_
   refine .sr fun _ hK11=>?_
   first | refine .v (.iN sl67 rfl rfl) ?_ | refine .v (.iK sl67 rfl rfl) ?_
   refine AK.val (.int .i64 (((mems (s &&& below (rs.length:Int))).getD k 0:Nat):Int)) (Yl.valE (Yl.loadI on3 rfl rdp (by rw [mI_len];omega)) (congrArg (Value.int .i64) (mI_get (by omega)))) trivial rfl ?_
   refine .as rfl (.nt hK11 ?_)
   refine AK.region ?_
   refine .mv rfl (.mv rfl (.mv rfl ?_))
   first | refine .v (.iN sl64 rfl rfl) ?_ | refine .v (.iK sl64 rfl rfl) ?_
   refine .v (.loadU on42 rfl rdp (by omega)) ?_
   refine .v (.orU rfl rfl) (.as rfl (.nil (.block_normal ?_)))
   refine AK.then_ (hK10 _ ?_)
   refine AK.region ?_
   refine .v (.add rfl rfl (by omega)) ?_
   refine .mv rfl (.nil ?_)
   refine AK.then_ (hK7 _ _ (k+1) (by omega) (by omega) (.cons ((by rw [imgL_next (by omega)];rfl)) (slr)) (fun w hw=>hw))
  ·refine .exit (.then_exit (.then_exit (.block_exit ?_)))
   refine AK.then_ (hK5 _ ?_)
   refine .sr fun _ hK12=>?_
   refine .mv rfl (.as rfl (.nt hK12 (.ret ?_)))
   refine AK.ret1 rfl rfl (fun w hw=>⟨_,_,?_,rfl,Ret.of (hw.pick [] (by decide) rfl rfl)⟩)
   unfold imgN
   rw [show (mems (s &&& below (rs.length:Int))).take k=(mems (s &&& below (rs.length:Int))) from List.take_of_length_le (by omega)]
   exact ⟨rfl,rfl⟩
end Go.Proofs.YtbibnpdnmmgacaaGreatDoor
namespace Go.Sx
open Go.RowKit
theorem AK.storeIn {C:Cx} {sl:List (Nat × Value)} {own:List Asn} {ops:Array Oper} {Q:Exit→Act→World→Prop} {ty:TypeId} {pos:String} {aft:Array Edge} {g:Option (Nat × Bool)} {rest:List Oper} (jj ii:Nat) {l:List Asn} {t E:TypeId} {x y:Operand} {v u:Value} {n j:Nat} {cs cs':List Value} (hj:own[jj]? = some (bigA l)) (hi:l[ii]? = some (row v E 1 n cs)) (hs1:(C.P.info? t).map (·.size)=some 1) (hx:opv ⟨sl,own⟩ x=some (.pointer (some ((slA v).add (j * 1))))) (hy:opv ⟨sl,own⟩ y=some u)
  (hu:u.cells = #[u]) (h1:u.oneCell'=true) (hjn:j<n) (hcs:cs.set j u=cs') (hg:Grd ops sl g) (h:AK C ⟨sl,own.set jj (bigA (l.set ii (row v E 1 n cs')))⟩ (wpList C.P ops Q rest)) :
  AK C ⟨sl,own⟩ (wpList C.P ops Q (⟨none,.store t x y,ty,pos,aft,g⟩ :: rest)):=by
 have hjl:jj<own.length:=(List.getElem?_eq_some_iff.1 hj).1
 have hil:ii<l.length:=(List.getElem?_eq_some_iff.1 hi).1
 have hop:∀ o,opv ⟨sl,own.set jj (bigA (l.set ii empA))++[row v E 1 n cs]⟩ o=opv ⟨sl,own⟩ o:=fun o=>by cases o <;> rfl
 have main:AK C ⟨sl,own.set jj (bigA (l.set ii empA))++[row v E 1 n cs]⟩ (wpList C.P ops Q (⟨none,.store t x y,ty,pos,aft,g⟩ :: rest)):=by
  refine AK.store1e own.length (E:=E) (v:=v) (u:=u) (n:=n) (cs:=cs) (cs':=cs') (by simp) hs1 (by rw [hop];exact hx) (by rw [hop];exact hy) hu h1 hjn hcs hg ?_
  intro a w hs
  refine h a w ⟨hs.size,hs.defers,hs.slot,?_⟩
  have:=hs.world
  rw [List.set_append_right _ _ (by simp)] at this
  simp only [List.length_set,Nat.sub_self,List.set_cons_zero] at this
  exact this.putback jj ii hjl hil
 intro a w hs
 exact main a w ⟨hs.size,hs.defers,hs.slot,hs.world.extract jj ii hj hi⟩
theorem matG_set {α:Type} {f:α→Value} {E:TypeId} {rs:List Value} {xss:List (List α)} (h:rs.length=xss.length) {i:Nat} (hi:i<xss.length) (ys:List α):(matG f E rs xss).set i (row (rs.getD i undef) E 1 ys.length (ys.map f))=matG f E rs (xss.set i ys):=by
 apply List.ext_getElem?
 intro k
 rw [List.getElem?_set]
 by_cases hk:i=k
 ·subst hk
  rw [if_pos rfl,if_pos (by rw [matG_length h];exact hi),matG_get (by simpa using h) (by simpa using hi)]
  simp [List.getD_eq_getElem?_getD,hi]
 ·rw [if_neg hk]
  simp [matG,List.zip,List.getElem?_zipWith,List.getElem?_set_ne hk]
def mtK (n:Nfa) (k:Nat):List (List W64):=(List.range n.L.toNat).map fun (x:Nat)=>(List.range n.S.toNat).map fun (q:Nat)=>rowE n.es (x:Int) (q:Int) k
theorem mtK_len (n:Nfa) (k:Nat):(mtK n k).length=n.L.toNat:=by simp [mtK]
theorem mtK_row {n:Nfa} {k x:Nat} (hx:x<n.L.toNat):(mtK n k).getD x []=(List.range n.S.toNat).map fun (q:Nat)=>rowE n.es (x:Int) (q:Int) k:=by
 simp [mtK,List.getD_eq_getElem?_getD,hx]
theorem mtK_rlen {n:Nfa} {k x:Nat} (hx:x<n.L.toNat):((mtK n k).getD x []).length=n.S.toNat:=by rw [mtK_row hx];simp
theorem mtK_get {n:Nfa} {k x q:Nat} (hx:x<n.L.toNat) (hq:q<n.S.toNat):((mtK n k).getD x []).getD q 0=rowE n.es (x:Int) (q:Int) k:=by
 rw [mtK_row hx];simp [List.getD_eq_getElem?_getD,hq]
theorem map_rep {α β:Type} (l:List α) (f:α→β) (b:β) (h:∀ a∈l,f a=b):l.map f=List.replicate l.length b:=by
 induction l with
 | nil=>rfl
 | cons a l ih=>
  rw [List.map_cons,h a (by simp),ih (fun c hc=>h c (by simp [hc]))];rfl
theorem mtK_zero (n:Nfa):mtK n 0=List.replicate n.L.toNat (List.replicate n.S.toNat 0):=by
 unfold mtK
 rw [map_rep _ _ (List.replicate n.S.toNat 0),List.length_range]
 intro x hx
 rw [map_rep _ _ (0:W64),List.length_range]
 intro q hq;rfl
theorem mtK_all {n:Nfa} {x:Nat} (hx:x<n.L.toNat):(mtK n n.es.length).getD x []=rowsN n (x:Int):=by rw [mtK_row hx];rfl
theorem rowE_next {es:List Edg} {x q:Int} {k:Nat}:rowE es x q (k+1)=if (es.getD k (0,0,0)).2.1=x∧(es.getD k (0,0,0)).1=q then rowE es x q k ||| bit (es.getD k (0,0,0)).2.2 else rowE es x q k:=rfl
theorem mtK_next {n:Nfa} {k a p:Nat} (ha:(n.es.getD k (0,0,0)).2.1=(a:Int)) (hp:(n.es.getD k (0,0,0)).1=(p:Int)) :
  mtK n (k+1)=(mtK n k).set a (((mtK n k).getD a []).set p (((mtK n k).getD a []).getD p 0 ||| bit (n.es.getD k (0,0,0)).2.2)):=by
 apply List.ext_getElem?
 intro x
 rw [List.getElem?_set]
 by_cases hx:x<n.L.toNat
 ·by_cases hxa:a=x
  ·subst hxa
   rw [if_pos rfl,if_pos (by rw [mtK_len];exact hx)]
   have e1:(mtK n (k+1))[a]? = some ((mtK n (k+1)).getD a []):=by
    rw [List.getD_eq_getElem?_getD,List.getElem?_eq_getElem (by rw [mtK_len];exact hx)];rfl
   rw [e1]
   congr 1
   apply List.ext_getElem?
   intro q
   rw [List.getElem?_set]
   by_cases hq:q<n.S.toNat
   ·have e2:((mtK n (k+1)).getD a [])[q]? = some (rowE n.es (a:Int) (q:Int) (k+1)):=by rw [mtK_row hx];simp [hq]
    rw [e2,rowE_next]
    by_cases hpq:p=q
    ·subst hpq
     rw [if_pos ⟨ha,hp⟩,if_pos rfl,if_pos (by rw [mtK_rlen hx];exact hq),mtK_get hx hq]
    ·rw [if_neg hpq,if_neg (fun h=>hpq (by have:=h.2;rw [hp] at this;omega)),mtK_row hx]
     simp [hq]
   ·rw [List.getElem?_eq_none (by rw [mtK_rlen hx];omega)]
    split
    ·rw [if_neg (by rw [mtK_rlen hx];omega)]
    ·rw [List.getElem?_eq_none (by rw [mtK_rlen hx];omega)]
  ·rw [if_neg hxa]
   have e1:∀ j,(mtK n j)[x]? = some ((mtK n j).getD x []):=fun j=>by
    rw [List.getD_eq_getElem?_getD,List.getElem?_eq_getElem (by rw [mtK_len];exact hx)];rfl
   rw [e1,e1,mtK_row hx,mtK_row hx]
   congr 1
   apply List.map_congr_left
   intro q _
   rw [rowE_next,if_neg (fun h=>hxa (by have:=h.1;rw [ha] at this;omega))]
 ·rw [List.getElem?_eq_none (by rw [mtK_len];omega)]
  split
  ·rw [if_neg (by rw [mtK_len];omega)]
  ·rw [List.getElem?_eq_none (by rw [mtK_len];omega)]
theorem fillW {l:List Value} {z r:Value} {n i:Nat} (hl:l.length=i) (h:i<n):(l++List.replicate (n - i) z).set i r=(l++[r])++List.replicate (n - (i+1)) z:=by
 subst hl
 have:=fill_set (id:Value→Value) l z r n l.length rfl h
 simpa using this
theorem rows_ok {n:Nfa} (hv:VN n) (x:Int):(rowsN n x).length≤64∧∀ j,j<(rowsN n x).length→(rowsN n x).getD j 0 &&& ~~~(below ((rowsN n x).length:Int))=0:=by
 have hS:=hv.S
 have hlen:((rowsN n x).length:Int)=n.S:=by simp [rowsN];omega
 refine ⟨by omega,fun j hj=>?_⟩
 rw [hlen]
 have hj':j<n.S.toNat:=by omega
 have e:(rowsN n x).getD j 0=rowNf n x (j:Int):=by simp [rowsN,List.getD_eq_getElem?_getD,hj']
 rw [e]
 apply BitVec.eq_of_getLsbD_eq
 intro i hi
 rw [BitVec.getLsbD_and,BitVec.getLsbD_not]
 cases hb:(rowNf n x (j:Int)).getLsbD i with
 | false=>simp
 | true=>
  obtain ⟨m,k1,k2,k3,k4⟩:=(rowE_get _ (fun j hj=>by have:=hv.edge hj;omega)).1 hb
  have:=hv.edge k1
  have h9:(i:Int)<n.S:=by omega
  rw [below_bit hS i hi,decide_eq_true h9];simp [hi]
end Go.Sx
