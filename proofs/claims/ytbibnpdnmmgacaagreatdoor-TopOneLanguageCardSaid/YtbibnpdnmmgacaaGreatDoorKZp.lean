import Derived.Test.YtbibnpdnmmgacaaGreatDoorKZo
import Derived.Test.YtbibnpdnmmgacaaGreatDoorKZc
import Derived.Test.YtbibnpdnmmgacaaGreatDoorKZg
import Derived.Test.YtbibnpdnmmgacaaGreatDoorKZm
import Derived.Test.YtbibnpdnmmgacaaGreatDoorKZf
import Derived.Test.YtbibnpdnmmgacaaGreatDoorKZb
set_option linter.unusedVariables false
set_option linter.unusedSimpArgs false
set_option maxRecDepth 100000
namespace Go.Proofs.YtbibnpdnmmgacaaGreatDoor
open Go.Sx Go.RowKit
theorem NJ (w:World) (q:Int) (x:Nat) (b:Nat) (d:bB) (vF vN:Value) (hv:VD d) (hb:qL w b [.int .i64 d.L,.int .i64 d.s,vF,vN]) (MW:lQ (fun _=>False) Value.bool w vF d.fin) (MV:rL (fun _=>False) (Value.int .i64) w vN d.nx) (hq:0≤q∧q<d.fin.length) (hx:x<d.L.toNat):aK Tryz.prog 124 [.int .i64 q,.int .i64 (x:Int),.pointer (some ⟨b,0,none⟩)] w (fun r o=>r = .int .i64 (bC d q x)∧o=[]):=by
 have hF:=MW
 unfold lQ at hF
 obtain ⟨rs,yM,DX,DY⟩:=MV
 have Mt:=hv.nx
 have hrw:=hv.row q.toNat (by omega)
 refine aC Tryz.func124 rfl (aT rfl) ?_
 refine .sr fun _ bl=>?_
 refine .as rfl (.nt bl ?_)
 refine .sr fun _ bg=>?_
 refine .v (.fieldAddr eQ rfl) (.v (.aa lC rfl ax rfl) (.mv rfl ?_))
 refine .v (.iK kQ rfl rfl (hr:=(by exact a8))) ?_
 refine .v (.jD hY rfl (by exact a8) (by omega)) ?_
 refine .mv rfl ?_
 refine .v (.iN bX rfl rfl (hr:=(by exact .arg (DY _ (by omega))))) ?_
 refine .v (.ff cQ rfl (by exact .arg (DY _ (by omega))) (by omega)) ?_
 refine .as rfl (.nt bg (.ret ?_))
 refine .aG rfl rfl (fun w hw=>⟨_,_,?_,rfl,.of (hw.pk [])⟩)
 exact ⟨rfl,rfl⟩
theorem NI (w:World) (q:Int) (b:Nat) (d:bB) (vF vN:Value) (hv:VD d) (hb:qL w b [.int .i64 d.L,.int .i64 d.s,vF,vN]) (MW:lQ (fun _=>False) Value.bool w vF d.fin) (MV:rL (fun _=>False) (Value.int .i64) w vN d.nx) (hq:0≤q∧q<d.fin.length):aK Tryz.prog 125 [.int .i64 q,.pointer (some ⟨b,0,none⟩)] w (fun r o=>r = .bool (c9 d q)∧o=[]):=by
 have hF:=MW
 unfold lQ at hF
 obtain ⟨rs,yM,DX,DY⟩:=MV
 have Mt:=hv.nx
 refine aC Tryz.func125 rfl (aT rfl) ?_
 refine .sr fun _ bl=>?_
 refine .as rfl (.nt bl ?_)
 refine .sr fun _ bg=>?_
 refine .v (.fieldAddr dp rfl) (.v (.aa jx rfl ax rfl) (.mv rfl (.v (.iK gf rfl rfl) ?_)))
 refine .v (.oK vk rfl a8 (by omega)) ?_
 refine .as rfl (.nt bg (.ret ?_))
 refine .aG rfl rfl (fun w hw=>⟨_,_,?_,rfl,.of (hw.pk [])⟩)
 exact ⟨rfl,rfl⟩
set_option maxHeartbeats 600000 in
theorem Kg (w:World) (v:Value) (d:bB) (h:oD (fun _=>False) w v d):aK Tryz.prog 74 [v] w (fun r o=>∃ (vF vN vM:Value) (rs:List Value),r = .tuple #[.agg #[.int .i64 (uT d).L,.int .i64 (uT d).s,vF,vN],vM]∧rs.length=(uT d).nx.length∧aB vF∧aB vN∧aB vM∧o=kg 4 3 67 vF vN rs (uT d)++[row vM 3 1 (HL d).length ((HL d).map (Value.int .i64))]):=by
 have h0:=h
 obtain ⟨vF,vN,rfl,hF,hN⟩:=h
 have MW:=hF
 have MV:=hN
 obtain ⟨rs,yM,DX,DY⟩:=hN
 have sF:=hF.sl
 have sN:=DX.sl
 have BU:=hF.le
 have WJ:=DX.le
 unfold lQ at hF
 refine aC Tryz.func74 rfl (aT rfl) ?_
 refine .sr fun _ bl=>?_
 refine .cS (E:=32) (cs:=[.int .i64 d.L,.int .i64 d.s,vF,vN]) rfl rfl rfl trivial rfl (fun jV=>?_)
 refine .alloc lR rfl rfl trivial rfl (fun eu=>?_)
 refine .as rfl (.nt bl ?_)
 refine .seq fun _ bg=>?_
 refine .sr fun _ bW=>?_
 refine .v (.ak eZ rfl ax rfl rfl) ?_
 refine .call HF rfl (fun w hw=>jN w _ d (h0.at hw)) trivial rfl ?_
 rintro r o ⟨rfl,rfl⟩
 refine .v (.neq rfl rfl) (.nt bW ?_)
 refine .df rfl (fun bx=>?_) (fun bx=>?_)
 ·have Tn:¬ VD d:=fun h=>bx ((gj d).2 h)
  refine .sr fun _ cr=>?_
  refine .v (.build (parts:=[]) (cs:=#[.int .i64 0,.int .i64 0,.slice none 0 0,.slice none 0 0]) rfl (by kernel_rfl)) ?_
  refine .ah 1 (us:=[.int .i64 0,.int .i64 0,.slice none 0 0,.slice none 0 0]) (cs':=[.int .i64 0,.int .i64 0,.slice none 0 0,.slice none 0 0]) rfl jW rfl rfl rfl rfl aJ (aT rfl) rfl trivial ?_
  refine .as rfl (.nt cr (.ret (.ae ?_)))
  refine .own' (kg 4 3 67 (.slice none 0 0) (.slice none 0 0) [] yv++[row (.slice none 0 0) 3 1 0 [],box eu 32 4 [.int .i64 0,.int .i64 0,.slice none 0 0,.slice none 0 0]]) (fun w hw=>by have h1:=((((hw.pk [1]).ghost 4 1).ghost 67 1).lW (f:=Value.int .i64) 3).ghost 3 1;exact h1.pk [1,2,3,4,0]) ?_
  refine .cO [.cell 2 32,.tmp 3] rfl (.cons (.cell eZ rfl ax rfl rfl) (.cons (.tmp rfl) (.nil))) (fun w hw=>⟨_,_,?_,rfl,.of (hw.pk [0,1,2,3])⟩)
  have e1:uT d=yv:=if_neg Tn
  have e2:HL d=[]:=if_neg Tn
  rw [e1,e2]
  exact ⟨_,_,_,[],rfl,rfl,cq,cq,cq,rfl⟩
 ·have hv:VD d:=(gj d).1 bx
  have hvL:=hv.L
  have X1:((d.L.toNat:Nat):Int)=d.L:=by omega
  obtain ⟨tk1,tk2,tk3,tk4⟩:=oW hv
  have XG:=hv.n
  refine .skip ?_
  refine .ab (bg _ ?_)
  refine .sr fun _ cJ=>?_
  refine .v (.fieldAddr kn rfl) (.v (.aa cQ rfl ax rfl) (.v (.fieldAddr kZ rfl) (.v (.aa cQ rfl ax rfl) (.v (.makeFunc (first:=[]) (captured:=[.tmp 1]) rfl rfl) (.v (.makeFunc (first:=[]) (captured:=[.tmp 1]) rfl rfl) ?_)))))
  refine .call Wb rfl (fun w hw=>(by have h:=E0 w d.L.toNat d.s (bC d) (c9 d) (univ d.fin.length) 124 125 [.pointer (some ⟨jV,0,none⟩)] [.pointer (some ⟨jV,0,none⟩)] (by omega) (fx hv) (by rw [jo];exact hv.n) (eG hv) Wa V9 (fun w' bI q hq x hx=>NJ w' q x jV d vF vN hv ((qL.own 0 hw rfl).fr bI) ((MW.at hw).fr bI) ((MV.at hw).fr bI) (eR.1 hq) hx) (fun w' bI q hq=>NI w' q jV d vF vN hv ((qL.own 0 hw rfl).fr bI) ((MW.at hw).fr bI) ((MV.at hw).fr bI) (eR.1 hq));rw [X1] at h;exact h)) trivial rfl ?_
  rintro r o ⟨n,vL,Hg,BN,IM,hn,Tk,sL,Xh,Xg,rfl,rfl⟩
  obtain ⟨ht1,Tj⟩:=Gf hv hn
  rw [ht1,Tj]
  have hTl:n=(eU d).length:=by rw [← ht1];exact hn
  refine .mv rfl (.v (.extract rfl rfl) (.v (.extract rfl rfl) (.v (.extract rfl rfl) ?_)))
  refine .alloc lR rfl rfl trivial rfl (fun iD=>?_)
  refine .ah 6 (us:=[.int .i64 d.L,.int .i64 0,Hg,BN]) (cs':=[.int .i64 d.L,.int .i64 0,Hg,BN]) rfl jW rfl rfl rfl rfl aJ (aT rfl) rfl trivial ?_
  refine .as rfl (.as rfl (.nt cJ ?_))
  refine .sr fun _ cU=>?_
  refine .v (.fieldAddr dp rfl) (.v (.aa jx rfl ax rfl) (.v (.aZ gf rfl a8) ?_))
  refine .kT (n:=d.fin.length) bX uL rfl rfl rfl (by omega) (by omega) trivial rfl (fun mv=>?_)
  refine .as rfl (.nt cU ?_)
  refine .seq fun _ c7=>?_
  refine .sr fun _ dm=>?_
  refine .mv rfl (.v (.aZ bX rfl a8) (.mv rfl (.nt dm (.block ?_))))
  refine .bE (X:=Nat) [(2,_),(4,_),(5,_),(7,_),(31,_)] (fun k=>[(32,.int .i64 (k:Int))]) (fun k=>[box jV 32 4 [.int .i64 d.L,.int .i64 d.s,vF,vN],box eu 32 4 [.int .i64 0,.int .i64 0,.slice none 0 0,.slice none 0 0],row Hg 4 1 (au d).fin.length ((au d).fin.map Value.bool),row BN 67 1 (au d).nx.length IM,bh (dQ (Value.int .i64) 3 IM (au d).nx),row vL 3 1 (eU d).length ((eU d).map (Value.int .i64)),box iD 32 4 [.int .i64 d.L,.int .i64 0,Hg,BN],row mv 3 1 d.fin.length ((List.replicate k (-1)++List.replicate (d.fin.length - k) (0:Int)).map (Value.int .i64))]) (fun k=>k≤d.fin.length) (fun k=>d.fin.length - k) (0) aU ?_ ?_ ?_ ?_
  ·exact Nat.zero_le _
  ·exact aU
  ·exact fun w hw=>by have e:((List.replicate 0 (-1)++List.replicate (d.fin.length - 0) (0:Int)).map (Value.int .i64))=List.replicate d.fin.length (Value.int .i64 0):=(by simp);rw [e];exact hw
  ·intro k aV _ dD
   refine .sr fun _ bJ=>?_
   refine .v (.lss rfl rfl) (.nt bJ ?_)
   refine .seq fun _ bP=>?_
   refine .aA rfl (fun cB=>?_) (fun cB=>?_)
   ·refine .skip ?_
    refine .ab (bP _ ?_)
    refine .seq fun _ ct=>?_
    refine .block ?_
    refine .sr fun _ cK=>?_
    refine .mv rfl (.as rfl (.nt cK ?_))
    refine .region ?_
    refine .mv rfl (.mv rfl (.v (.iN bX rfl rfl) ?_))
    refine .di 7 rfl tf rfl rfl rfl rfl (by omega) (cs':=((List.replicate (k+1) (-1)++List.replicate (d.fin.length - (k+1)) (0:Int)).map (Value.int .i64))) (by rw [List.replicate_succ'];exact fJ (Value.int .i64) (List.replicate k (-1)) 0 (-1) d.fin.length k (by simp) (by omega)) trivial ?_
    refine .nil (.ag ?_)
    refine .ab (ct _ ?_)
    refine .region ?_
    refine .v (.add rfl rfl (by omega)) ?_
    refine .mv rfl (.nil ?_)
    refine .ab (dD _ _ (k+1) (by omega) (by omega) (aU) (fun w hw=>hw))
   ·refine .shape 7 rfl (fun B0=>?_)
    refine .exit (.ai (.ai (.ar ?_)))
    refine .ab (c7 _ ?_)
    refine .seq fun _ cW=>?_
    refine .sr fun _ c8=>?_
    refine .mv rfl (.v (.aZ bX rfl a8) (.mv rfl (.nt c8 (.block ?_))))
    refine .bE (X:=Nat) [(2,_),(4,_),(7,_),(39,_),(40,_)] (fun k=>[(41,.int .i64 (k:Int))]) (fun k=>[box jV 32 4 [.int .i64 d.L,.int .i64 d.s,vF,vN],box eu 32 4 [.int .i64 0,.int .i64 0,.slice none 0 0,.slice none 0 0],row Hg 4 1 (au d).fin.length ((au d).fin.map Value.bool),row BN 67 1 (au d).nx.length IM,bh (dQ (Value.int .i64) 3 IM (au d).nx),row vL 3 1 (eU d).length ((eU d).map (Value.int .i64)),box iD 32 4 [.int .i64 d.L,.int .i64 0,Hg,BN],row mv 3 1 d.fin.length ((vu d.fin.length (eU d) k).map (Value.int .i64))]) (fun k=>k≤(eU d).length) (fun k=>(eU d).length - k) (0) aU ?_ ?_ ?_ ?_
    ·exact Nat.zero_le _
    ·exact aU
    ·exact fun w hw=>by have e:(List.replicate k (-1)++List.replicate (d.fin.length - k) (0:Int))=vu d.fin.length (eU d) 0:=(by rw [show k=d.fin.length by omega,Nat.sub_self];simp [vu]);rw [e] at hw;exact hw
    ·intro k c6 _ dw
     refine .sr fun _ dE=>?_
     refine .v (.lss rfl rfl) (.nt dE ?_)
     refine .seq fun _ dR=>?_
     refine .aA rfl (fun cZ=>?_) (fun cZ=>?_)
     ·have htk:=tk2 _ (aX (d:=0) (xs:=eU d) (k:=k) (by omega))
      refine .skip ?_
      refine .ab (dR _ ?_)
      refine .seq fun _ dO=>?_
      refine .block ?_
      refine .sr fun _ eJ=>?_
      refine .mv rfl (.v (.iN bX rfl rfl) ?_)
      refine .v (.ff cQ rfl a8 (by omega)) ?_
      refine .as rfl (.as rfl (.nt eJ ?_))
      refine .region ?_
      refine .mv rfl (.mv rfl (.mv rfl (.v (.iK bX rfl rfl) ?_)))
      refine .di 7 rfl tf rfl rfl rfl rfl (by have:=mC d.fin.length (eU d) k;omega) (cs':=((vu d.fin.length (eU d) (k+1)).map (Value.int .i64))) (by rw [tZ,List.map_set]) trivial ?_
      refine .nil (.ag ?_)
      refine .ab (dO _ ?_)
      refine .region ?_
      refine .v (.add rfl rfl (by omega)) ?_
      refine .mv rfl (.nil ?_)
      refine .ab (dw _ _ (k+1) (by omega) (by omega) (aU) (fun w hw=>hw))
     ·refine .exit (.ai (.ai (.ar ?_)))
      refine .ab (cW _ ?_)
      refine .sr fun _ eY=>?_
      refine .v (.ak eZ rfl ax rfl rfl) (.mv rfl ?_)
      refine .ah 1 (us:=[.int .i64 d.L,.int .i64 0,Hg,BN]) (cs':=[.int .i64 d.L,.int .i64 0,Hg,BN]) rfl jW rfl rfl rfl rfl aJ (aT rfl) rfl trivial ?_
      refine .as rfl (.nt eY (.ret ?_))
      refine .cO [.cell 2 32,.tmp 3] rfl (.cons (.cell eZ rfl ax rfl rfl) (.cons (.tmp rfl) (.nil))) (fun w hw=>⟨_,_,?_,rfl,.of (hw.pk [2,3,4,7])⟩)
      have e1:uT d=au d:=if_pos hv
      have e2:HL d=iR d:=if_pos hv
      rw [e1,e2]
      refine ⟨Hg,BN,mv,IM,rfl,?_,Xh,Xg,B0,?_⟩
      ·rw [Tk,hTl];simp [au]
      ·have e3:(iR d).length=d.fin.length:=mC _ _ _
       rw [e3];unfold iR;rw [show (eU d).length=k by omega];rfl
end Go.Proofs.YtbibnpdnmmgacaaGreatDoor
namespace Go.Proofs.YtbibnpdnmmgacaaGreatDoor
open Go.Sx Go.RowKit
end Go.Proofs.YtbibnpdnmmgacaaGreatDoor
namespace Go.Proofs.YtbibnpdnmmgacaaGreatDoor
open Go.Sx Go.RowKit
end Go.Proofs.YtbibnpdnmmgacaaGreatDoor
namespace Go.Proofs.YtbibnpdnmmgacaaGreatDoor
open Go.Sx Go.RowKit
end Go.Proofs.YtbibnpdnmmgacaaGreatDoor
namespace Go.Proofs.YtbibnpdnmmgacaaGreatDoor
open Go.Sx Go.RowKit
theorem Pz:yA Tryz.prog 196 (tv:MA 7→Value):=SF Qd.1 Mk tf
end Go.Proofs.YtbibnpdnmmgacaaGreatDoor
namespace Go.Proofs.YtbibnpdnmmgacaaGreatDoor
open Go.Sx Go.RowKit
set_option maxHeartbeats 2000000 in
theorem H9 (w:World) (v:Value) (d:bB) (h:oD (fun _=>False) w v d):aK Tryz.prog 104 [v] w (fun r o=>aB r∧o=[row r 3 1 (JK d).length ((JK d).map (Value.int .i64))]):=by
 have h0:=h
 obtain ⟨vF,vN,rfl,hF,hN⟩:=h
 have MW:=hF
 have MV:=hN
 obtain ⟨rs,yM,DX,DY⟩:=hN
 have sF:=hF.sl
 have sN:=DX.sl
 have BU:=hF.le
 have WJ:=DX.le
 unfold lQ at hF
 refine aC Tryz.func104 rfl (aT rfl) ?_
 refine .sr fun _ bl=>?_
 refine .cS (E:=32) (cs:=[.int .i64 d.L,.int .i64 d.s,vF,vN]) rfl rfl rfl trivial rfl (fun jV=>?_)
 refine .as rfl (.nt bl ?_)
 refine .seq fun _ bg=>?_
 refine .sr fun _ bW=>?_
 refine .v (.ak eZ rfl ax rfl rfl) ?_
 refine .call HF rfl (fun w hw=>jN w _ d (h0.at hw)) trivial rfl ?_
 rintro r o ⟨rfl,rfl⟩
 refine .v (.neq rfl rfl) (.nt bW ?_)
 refine .df rfl (fun bx=>?_) (fun bx=>?_)
 ·have Tn:¬ VD d:=fun h=>bx ((gj d).2 h)
  refine .sr fun _ cr=>?_
  refine .as rfl (.nt cr (.ret (.ae ?_)))
  refine .ghost 3 1 ?_
  refine .aG rfl rfl (fun w hw=>⟨_,_,?_,rfl,.of (hw.pk [1])⟩)
  rw [show JK d=[] from if_neg Tn]
  exact ⟨cq,rfl⟩
 ·have hv:VD d:=(gj d).1 bx
  have hL:=hv.L
  have Mt:=hv.nx
  have XG:=hv.n
  have XH:0<d.fin.length:=by have:=hv.s;omega
  have hf0:=Av d
  refine .skip ?_
  refine .ab (bg _ ?_)
  refine .sr fun _ cJ=>?_
  refine .v (.fieldAddr dp rfl) (.v (.aa jx rfl ax rfl) ?_)
  refine .v (.aZ gf rfl (by exact a8)) ?_
  refine .kT (n:=d.fin.length) bX uL rfl rfl rfl (by omega) (by omega) trivial rfl (fun iQ=>?_)
  refine .shape 1 rfl (fun Yw=>?_)
  refine .as rfl (.as rfl (.nt cJ ?_))
  refine .seq fun _ cU=>?_
  refine .sr fun _ c7=>?_
  refine .v (.fieldAddr dp rfl) (.v (.aa jx rfl ax rfl) ?_)
  refine .v (.aZ gf rfl (by exact a8)) ?_
  refine .mv rfl (.nt c7 (.block ?_))
  refine .bE (X:=Nat) [(1,_),(3,_),(24,_),(25,_)] (fun k=>[(4,.int .i64 (if diff d k then 2 else 1)),(26,.int .i64 (k:Int))]) (fun k=>[box jV 32 4 [.int .i64 d.L,.int .i64 d.s,vF,vN],row iQ 3 1 d.fin.length (((f0 d).take k++List.replicate (d.fin.length - k) 0).map (Value.int .i64))]) (fun k=>k≤d.fin.length) (fun k=>d.fin.length - k) (0) aU ?_ ?_ ?_ ?_
  ·exact Nat.zero_le _
  ·exact aU
  ·exact fun w hw=>by have e:(((f0 d).take 0++List.replicate (d.fin.length - 0) 0).map (Value.int .i64))=List.replicate d.fin.length (Value.int .i64 0):=(by simp);rw [e];exact hw
  ·intro k aV _ dm
   refine .sr fun _ dD=>?_
   refine .v (.lss rfl rfl) (.nt dD ?_)
   refine .seq fun _ bJ=>?_
   refine .aA rfl (fun cB=>?_) (fun cB=>?_)
   ·refine .skip ?_
    refine .ab (bJ _ ?_)
    refine .seq fun _ bP=>?_
    refine .block ?_
    refine .sr fun _ ct=>?_
    refine .mv rfl ?_
    refine .v (.iN gf rfl rfl (hr:=(by exact a8))) ?_
    refine .v (.oK vk rfl (by exact a8) (by omega)) ?_
    refine .as rfl (.as rfl (.nt ct ?_))
    refine .sr fun _ cK=>?_
    refine .mv rfl (.v (.fieldAddr dp rfl) (.v (.aa jx rfl ax rfl) ?_))
    refine .v (.qi (k:=0) gf rfl rfl (by exact a8) (by decide) (by omega)) ?_
    refine .v (.oK vk rfl (by exact a8) (by omega)) ?_
    refine .v (.Q1 T8 rfl rfl) (.nt cK ?_)
    refine .cond rfl (fun cZ=>?_) (fun cZ=>?_)
    ·try simp only [bs] at cZ
     refine .region ?_
     refine .mv rfl (.mv rfl ?_)
     refine .v (.iN bX rfl rfl (hr:=(by exact a8))) ?_
     refine .di 1 rfl tf rfl rfl rfl rfl (by omega) (cs':=(((f0 d).take (k+1)++List.replicate (d.fin.length - (k+1)) 0).map (Value.int .i64))) (by exact L2 (by omega) (by simpa using cZ)) trivial ?_
     refine .as rfl (.nil (.ag ?_))
     refine .ab (bP _ ?_)
     refine .region ?_
     refine .v (.add rfl rfl (by omega)) ?_
     refine .mv rfl (.nil ?_)
     refine .ab (dm _ _ (k+1) (by omega) (by omega) (.cons (s9 rfl (L7 (by omega) (by simpa using cZ))) (aU)) (fun w hw=>hw))
    ·try simp only [bs] at cZ
     refine .skip (.ag ?_)
     refine .ab (bP _ ?_)
     refine .region ?_
     refine .v (.add rfl rfl (by omega)) ?_
     refine .mv rfl (.nil ?_)
     refine .ab (dm _ _ (k+1) (by omega) (by omega) (.cons (s9 rfl (IB (by omega) (by simpa using cZ))) (aU)) (fun w hw=>by rw [← L3 (by omega) (by simpa using cZ)];exact hw))
   ·refine .exit (.ai (.ai (.ar ?_)))
    refine .ab (cU _ ?_)
    refine .block ?_
    refine .bE (X:=Value × List Int) [(1,_)] (fun x=>[(3,x.1),(4,.int .i64 ((ee x.2).length:Int))]) (fun x=>[box jV 32 4 [.int .i64 d.L,.int .i64 d.s,vF,vN],row x.1 3 1 d.fin.length (x.2.map (Value.int .i64))]) (fun x=>(∃ k,td d k x.2)∧aB x.1) (fun x=>d.fin.length - (ee x.2).length) ((iQ,f0 d)) aU ?_ ?_ ?_ ?_
    ·exact ⟨⟨0,SQ d⟩,Yw⟩
    ·exact .cons (rfl) (.cons (s9 rfl (by rw [SR d XH,show k=d.fin.length by omega])) (aU))
    ·exact fun w hw=>by rw [show k=d.fin.length by omega,Nat.sub_self,List.replicate_zero,List.append_nil,← hf0,List.take_length] at hw;rw [hf0] at hw;exact hw
    ·intro x c6 _ cW
     have TL:x.2.length=d.fin.length:=by obtain ⟨kk,FA⟩:=c6.1;exact FA.1
     have hdx:=Ay x.2
     have sx1:=c6.2
     refine .block ?_
     refine .sr fun _ c8=>?_
     refine .makeMap trivial rfl (fun mb=>?_)
     refine .as rfl (.nt c8 ?_)
     refine .sr fun _ dw=>?_
     refine .mv rfl ?_
     refine .v (.aZ bX rfl (by exact a8)) ?_
     refine .kT (n:=d.fin.length) bX uL rfl rfl rfl (by omega) (by omega) trivial rfl (fun Fw=>?_)
     refine .shape 3 rfl (fun Cb=>?_)
     refine .as rfl (.nt dw ?_)
     refine .seq fun _ dE=>?_
     refine .sr fun _ dR=>?_
     refine .v (.fieldAddr eQ rfl) (.v (.aa lC rfl ax rfl) ?_)
     refine .v (.aZ kQ rfl (by exact a8)) ?_
     refine .mv rfl (.nt dR (.block ?_))
     refine .bE (X:=Nat) [(1,_),(3,_),(4,_),(7,_),(8,_),(46,_),(47,_)] (fun q=>[(48,.int .i64 (q:Int))]) (fun q=>[box jV 32 4 [.int .i64 d.L,.int .i64 d.s,vF,vN],row x.1 3 1 d.fin.length (x.2.map (Value.int .i64)),mapA mb (kx (tv:MA 7→Value) (Value.int .i64) (gC (ee ((mi d x.2).take q)))),row Fw 3 1 d.fin.length ((dK ((mi d x.2).take q)++List.replicate (d.fin.length - q) 0).map (Value.int .i64))]) (fun q=>q≤d.fin.length) (fun q=>d.fin.length - q) (0) aU ?_ ?_ ?_ ?_
     ·exact Nat.zero_le _
     ·exact aU
     ·exact fun w hw=>by have e:((dK ((mi d x.2).take 0)++List.replicate (d.fin.length - 0) 0).map (Value.int .i64))=List.replicate d.fin.length (Value.int .i64 0):=(by simp [dK]);rw [e];exact hw
     ·intro q lO _ dO
      refine .sr fun _ eJ=>?_
      refine .v (.lss rfl rfl) (.nt eJ ?_)
      refine .seq fun _ eY=>?_
      refine .aA rfl (fun iz=>?_) (fun iz=>?_)
      ·have O5:q<d.fin.length:=by omega
       have hrw:=hv.row q O5
       have mW:=o4 d x.2
       have TY:=Ay ((mi d x.2).take q)
       rw [List.length_take] at TY
       have Mu:=mB (ee ((mi d x.2).take q))
       refine .skip ?_
       refine .ab (eY _ ?_)
       refine .seq fun _ eI=>?_
       refine .block ?_
       refine .sr fun _ fH=>?_
       refine .mv rfl ?_
       refine .v (.iN kQ rfl rfl (hr:=(by exact a8))) ?_
       refine .v (.jD hY rfl (by exact a8) (by omega)) ?_
       refine .as rfl (.as rfl (.nt fH ?_))
       refine .sr fun _ gq=>?_
       refine .mv rfl (.mv rfl ?_)
       refine .v (.iN bX rfl rfl (hr:=(by exact a8))) ?_
       refine .v (.ff cQ rfl (by exact a8) (by omega)) ?_
       refine .v (.build (parts:=[(0,.tmp 56)]) (cs:=#[.int .i64 (x.2.getD q 0),.int .i64 0,.int .i64 0,.int .i64 0,.int .i64 0,.int .i64 0,.int .i64 0]) rfl (by kernel_rfl)) ?_
       refine .alloc VG rfl rfl trivial rfl (fun ja=>?_)
       refine .ah 4 (us:=[.int .i64 (x.2.getD q 0),.int .i64 0,.int .i64 0,.int .i64 0,.int .i64 0,.int .i64 0,.int .i64 0]) (cs':=[.int .i64 (x.2.getD q 0),.int .i64 0,.int .i64 0,.int .i64 0,.int .i64 0,.int .i64 0,.int .i64 0]) rfl UW rfl rfl rfl rfl aJ (aT rfl) rfl trivial ?_
       refine .nt gq ?_
       refine .seq fun _ iT=>?_
       refine .sr fun _ iZ=>?_
       refine .mv rfl ?_
       refine .v (.aZ bX rfl (by exact .arg (DY _ (by omega)))) ?_
       refine .mv rfl (.nt iZ (.block ?_))
       refine .bE (X:=Nat) [(1,_),(3,_),(4,_),(7,_),(8,_),(9,_),(11,_),(46,_),(47,_),(48,_),(58,_),(59,_)] (fun j=>[(60,.int .i64 (j:Int))]) (fun j=>[box jV 32 4 [.int .i64 d.L,.int .i64 d.s,vF,vN],row x.1 3 1 d.fin.length (x.2.map (Value.int .i64)),mapA mb (kx (tv:MA 7→Value) (Value.int .i64) (gC (ee ((mi d x.2).take q)))),row Fw 3 1 d.fin.length ((dK ((mi d x.2).take q)++List.replicate (d.fin.length - q) 0).map (Value.int .i64)),box ja 196 7 ((rI ((rG d x.2 q).take (j+1))).map (Value.int .i64))]) (fun j=>j≤(d.nx.getD q []).length) (fun j=>(d.nx.getD q []).length - j) (0) aU ?_ ?_ ?_ ?_
       ·exact Nat.zero_le _
       ·exact aU
       ·exact fun w hw=>hw
       ·intro j IS _ iS
        refine .sr fun _ jy=>?_
        refine .v (.lss rfl rfl) (.nt jy ?_)
        refine .seq fun _ kf=>?_
        refine .aA rfl (fun gn=>?_) (fun gn=>?_)
        ·have Ti:=hv.to q j O5 (by omega)
         have Jp:=sA hv x.2 O5
         refine .skip ?_
         refine .ab (kf _ ?_)
         refine .seq fun _ kB=>?_
         refine .block ?_
         refine .sr fun _ ke=>?_
         refine .mv rfl ?_
         refine .v (.iN bX rfl rfl (hr:=(by exact .arg (DY _ (by omega))))) ?_
         refine .v (.ff cQ rfl (by exact .arg (DY _ (by omega))) (by omega)) ?_
         refine .as rfl (.as rfl (.nt ke ?_))
         refine .region ?_
         refine .mv rfl ?_
         refine .v (.add rfl rfl (by omega)) ?_
         refine .mv rfl (.mv rfl ?_)
         refine .v (.iK bX rfl rfl (hr:=(by exact a8))) ?_
         refine .v (.ff cQ rfl (by exact a8) (by omega)) ?_
         refine .v (.Oz Qd rfl rfl (by omega)) ?_
         refine .ah 4 (us:=[.int .i64 (x.2.getD ((d.nx.getD q []).getD j 0).toNat 0)]) (cs':=((rI ((rG d x.2 q).take (j+2))).map (Value.int .i64))) rfl tf rfl rfl rfl rfl aJ (by rw [List.length_map,w4];simp only [List.length_cons,List.length_nil];omega) (by rw [HV (by omega)];have e:0+((1:Int)+(j:Int)).toNat * 1=j+1:=(by omega);rw [e];exact Ig (by rw [List.length_take];omega) (by omega)) trivial ?_
         refine .nil (.ag ?_)
         refine .ab (kB _ ?_)
         refine .region ?_
         refine .v (.add rfl rfl (by omega)) ?_
         refine .mv rfl (.nil ?_)
         refine .ab (iS _ _ (j+1) (by omega) (by omega) (aU) (fun w hw=>hw))
        ·have ejk:rI ((rG d x.2 q).take (j+1))=((mi d x.2).getD q rO).1:=by
          have Jp:=sA hv x.2 O5
          rw [wU O5,List.take_of_length_le (by omega)];rfl
         rw [ejk]
         refine .exit (.ai (.ai (.ar ?_)))
         refine .ab (iT _ ?_)
         refine .sr fun _ nj=>?_
         refine .mv rfl (.val (tv ((mi d x.2).getD q rO)) (.GJ Qg rfl (iF.own 4 rfl)) trivial rfl (.v (.k9 Cq Pz uL rfl rfl MF) (.mv rfl (.v (.extract rfl rfl) (.v (.extract rfl rfl) (.as rfl (.as rfl (.nt nj ?_))))))))
         refine .seq fun _ lE=>?_
         refine .sr fun _ oG=>?_
         refine .mv rfl (.v (.not rfl) (.nt oG ?_))
         refine .eW rfl (fun qp=>?_) (fun qp=>?_)
         ·obtain ⟨hx,XT⟩:=Og qp
          refine .sr fun _ wg=>?_
          refine .mv rfl (.v (.M5 Cq rfl MF) (.as rfl (.nt wg ?_)))
          refine .region ?_
          refine .mv rfl (.val (tv ((mi d x.2).getD q rO)) (.GJ Qg rfl (iF.own 4 rfl)) trivial rfl (.mv rfl ?_))
          refine .qX 2 rfl Cq Pz rfl rfl rfl trivial ?_
          refine .nt lE ?_
          refine .region ?_
          refine .mv rfl (.mv rfl (.mv rfl ?_))
          refine .v (.iN bX rfl rfl (hr:=(by exact a8))) ?_
          refine .di 3 rfl tf rfl rfl rfl rfl (by omega) (cs':=((dK ((mi d x.2).take (q+1))++List.replicate (d.fin.length - (q+1)) 0).map (Value.int .i64))) (by exact Dm rO mW O5 XT) trivial ?_
          refine .nil (.ag ?_)
          refine .ab (eI _ ?_)
          refine .region ?_
          refine .v (.add rfl rfl (by omega)) ?_
          refine .mv rfl (.nil ?_)
          refine .ab (dO _ _ (q+1) (by omega) (by omega) (aU) (fun w hw=>by rw [← OO rO (by omega) hx];exact hw.pk [0,1,2,3]))
         ·obtain ⟨hx,XT⟩:=Of qp
          refine .skip ?_
          refine .ab (lE _ ?_)
          refine .region ?_
          refine .mv rfl (.mv rfl (.mv rfl ?_))
          refine .v (.iN bX rfl rfl (hr:=(by exact a8))) ?_
          refine .di 3 rfl tf rfl rfl rfl rfl (by omega) (cs':=((dK ((mi d x.2).take (q+1))++List.replicate (d.fin.length - (q+1)) 0).map (Value.int .i64))) (by exact Dm rO mW O5 XT) trivial ?_
          refine .nil (.ag ?_)
          refine .ab (eI _ ?_)
          refine .region ?_
          refine .v (.add rfl rfl (by omega)) ?_
          refine .mv rfl (.nil ?_)
          refine .ab (dO _ _ (q+1) (by omega) (by omega) (aU) (fun w hw=>by rw [ON rO (by omega) (by assumption)];exact hw.pk [0,1,2,3]))
      ·refine .exit (.ai (.ai (.ar ?_)))
       refine .ab (dE _ ?_)
       refine .seq fun _ Ab=>?_
       refine .sr fun _ Eg=>?_
       refine .mv rfl (.v (.M5 Cq rfl MF) (.mv rfl (.v (.eql rfl rfl) (.nt Eg ?_))))
       refine .aA rfl (fun ka=>?_) (fun ka=>?_)
       ·have IQ:q=d.fin.length:=by omega
        have mW:=o4 d x.2
        have Pd:=CK hv x.2
        have Mu:=mB (ee ((mi d x.2).take q))
        rw [IQ,← mW,List.take_length] at ka Mu
        refine .sr fun _ Ef=>?_
        refine .mv rfl (.as rfl (.nt Ef (.ret (.ae (.al (.ae (.al ?_)))))))
        refine .aG rfl rfl (fun w hw=>⟨_,_,?_,rfl,.of (hw.pk [3])⟩)
        obtain ⟨kk,FA⟩:=c6.1
        have e:=Ma hv FA (by omega)
        refine ⟨Cb,?_⟩
        rw [show JK d=dj d from if_pos hv,vW,IQ,Nat.sub_self,List.replicate_zero,List.append_nil,← mW,List.take_length,Pd.1,e,mW]
        rfl
       ·have IQ:q=d.fin.length:=by omega
        have mW:=o4 d x.2
        have Pd:=CK hv x.2
        have Mu:=mB (ee ((mi d x.2).take q))
        rw [IQ,← mW,List.take_length] at ka Mu
        obtain ⟨kk,FA⟩:=c6.1
        have hmo:=Mb hv FA (by omega)
        refine .skip ?_
        refine .ab (Ab _ ?_)
        refine .region ?_
        refine .mv rfl (.mv rfl (.v (.M5 Cq rfl MF) (.as rfl (.as rfl (.nil (.ag ?_))))))
        refine .ab (cW _ _ ((Fw,dK (sigs d x.2))) ⟨⟨kk+1,FA.next hv⟩,Cb⟩ (by dsimp only;omega) (.cons (rfl) (.cons (s9 rfl (by dsimp only;rw [sW,← Pd.2,mB,IQ,← mW,List.take_length])) (aU))) (fun w hw=>by rw [IQ,Nat.sub_self,List.replicate_zero,List.append_nil,← mW,List.take_length,Pd.1,mW] at hw;exact hw.pk [0,3]))
end Go.Proofs.YtbibnpdnmmgacaaGreatDoor
namespace Go.Proofs.YtbibnpdnmmgacaaGreatDoor
open Go.Sx Go.RowKit
theorem Ly {d:bB} (hv:VD d) {q:Int} (hq:na d q):(iR d).getD q.toNat 0=if q∈eU d then ((bV (eU d) q:Nat):Int) else -1:=by
 obtain ⟨h1,h2,h3,h4⟩:=oW hv
 unfold iR
 rw [w6 h1 h2 _ (Nat.le_refl _) q hq]
 by_cases hm:q∈eU d
 ·rw [if_pos hm,if_pos (fg hm)]
 ·rw [if_neg hm,if_neg (by rw [ix hm];omega)]
theorem NF {α:Type} (f:α→Value) (A B:List α) (z c:α) {n:Nat} (hn:A.length=n):(((A++[z])++B).map f).set n (f c)=((A++[c])++B).map f:=by
 subst hn
 rw [← List.map_set,List.set_append_left _ _ (by simp),List.set_append_right _ _ (Nat.le_refl _),Nat.sub_self];rfl
theorem wX {d:bB} (hv:VD d) {q:Nat} (hq:q<d.fin.length):(iX d q).length=d.L.toNat:=by
 have:=hv.row q hq
 unfold iX;rw [List.length_map];omega
theorem Ic {d:bB} (hv:VD d) {q:Nat} (hq:q<d.fin.length) {x:Nat} (hx:x<d.L.toNat) :
  (((iX d q).take x++List.replicate (d.L.toNat - x) 0).map (Value.int .i64)).set x (.int .i64 ((dj d).getD ((d.nx.getD q []).getD x 0).toNat 0))=((iX d q).take (x+1)++List.replicate (d.L.toNat - (x+1)) 0).map (Value.int .i64):=by
 have hl:=wX hv hq
 rw [aO 0 (iX d q) x (by omega),wY hv hq (by omega)]
 exact fJ (Value.int .i64) _ 0 _ d.L.toNat x (by rw [List.length_take];omega) hx
set_option maxHeartbeats 4000000 in
theorem H3 (w:World) (v:Value) (d:bB) (h:oD (fun _=>False) w v d) (hv:VD d):aK Tryz.prog 51 [v] w (fun r o=>∃ (vF vN vS:Value) (rs:List Value),r = .tuple #[.agg #[.int .i64 (minD d).L,.int .i64 (minD d).s,vF,vN],vS]∧rs.length=(minD d).nx.length∧aB vF∧aB vN∧aB vS∧o=kg 4 3 67 vF vN rs (minD d)++[row vS 3 1 (mapM d).length ((mapM d).map (Value.int .i64))]):=by
 have h0:=h
 obtain ⟨vF,vN,rfl,hF,hN⟩:=h
 have MW:=hF
 have MV:=hN
 obtain ⟨rs,yM,DX,DY⟩:=hN
 have sF:=hF.sl
 have sN:=DX.sl
 have BU:=hF.le
 have WJ:=DX.le
 unfold lQ at hF
 have hL:=hv.L
 have XG:=hv.n
 have hTe:uT d=au d:=if_pos hv
 have hNe:HL d=iR d:=if_pos hv
 have hT:=vD hv
 have abf:=hT.nx
 have abg:=hT.n
 have DW:=vW (au d)
 have Uv:=BD hT
 have hCe:JK (au d)=(dj (au d)):=if_pos hT
 have hQ:=wF hT
 have hqs:(eX (au d)).s=0:=by
  have h1:=EG Uv (k:=0) (by have:=hT.s;omega)
  exact h1.trans (by simp [ee,bV])
 have hQe:uT (eX (au d))=minD d:=(if_pos hQ).trans (LB hv)
 have hQn:HL (eX (au d))=iR (eX (au d)):=if_pos hQ
 have hnt:(iR d).length=d.fin.length:=mC _ _ _
 have hTL:(au d).L=d.L:=rfl
 refine aC Tryz.func51 rfl (aT rfl) ?_
 refine .sr fun _ bl=>?_
 refine .cS (E:=32) (cs:=[.int .i64 d.L,.int .i64 d.s,vF,vN]) rfl rfl rfl trivial rfl (fun jV=>?_)
 refine .alloc lR rfl rfl trivial rfl (fun eu=>?_)
 refine .as rfl (.nt bl ?_)
 refine .sr fun _ bg=>?_
 refine .v (.ak eZ rfl ax rfl rfl) ?_
 refine .call UF rfl (fun w hw=>Kg w _ d (h0.at hw)) trivial rfl ?_
 rintro r o ⟨tF,tN,tM,Mm,rfl,Jo,stF,stN,stM,rfl⟩
 rw [hTe] at Jo
 rw [hTe,hNe]
 refine .mv rfl (.v (.extract rfl rfl) (.v (.extract rfl rfl) ?_))
 refine .alloc lR rfl rfl trivial rfl (fun iD=>?_)
 refine .ah 6 (us:=[.int .i64 (au d).L,.int .i64 (au d).s,tF,tN]) (cs':=[.int .i64 (au d).L,.int .i64 (au d).s,tF,tN]) rfl jW rfl rfl rfl rfl aJ (aT rfl) rfl trivial ?_
 refine .as rfl (.nt bg ?_)
 refine .sr fun _ bW=>?_
 refine .v (.ak eZ rfl ax rfl rfl) ?_
 refine .call Wg rfl (fun w hw=>H9 w _ (au d) (oD.own 2 hw Jo rfl rfl rfl)) trivial rfl ?_
 rintro cv o ⟨Te,rfl⟩
 rw [hCe]
 refine .as rfl (.nt bW ?_)
 refine .sr fun _ cr=>?_
 refine .v (.fieldAddr kn rfl) (.v (.aa cQ rfl ax rfl) ?_)
 refine .v (.build (parts:=[(0,.tmp 26)]) (cs:=#[.int .i64 d.L,.int .i64 0,.slice none 0 0,.slice none 0 0]) rfl (by kernel_rfl)) ?_
 refine .alloc lR rfl rfl trivial rfl (fun oe=>?_)
 refine .ah 8 (us:=[.int .i64 d.L,.int .i64 0,.slice none 0 0,.slice none 0 0]) (cs':=[.int .i64 d.L,.int .i64 0,.slice none 0 0,.slice none 0 0]) rfl jW rfl rfl rfl rfl aJ (aT rfl) rfl trivial ?_
 refine .nt cr ?_
 refine .seq fun _ cJ=>?_
 refine .sr fun _ cU=>?_
 refine .mv rfl ?_
 refine .v (.aZ bX rfl (by exact a8)) ?_
 refine .mv rfl (.nt cU (.block ?_))
 refine .bE (X:=Nat × Value × Value × List Value) [(1,_),(2,_),(4,_),(5,_),(6,_),(7,_),(28,_),(29,_)] (fun x=>[(30,.int .i64 (x.1:Int))]) (fun x=>[box jV 32 4 [.int .i64 d.L,.int .i64 d.s,vF,vN],box eu 32 4 [.int .i64 0,.int .i64 0,.slice none 0 0,.slice none 0 0],row tF 4 1 (au d).fin.length ((au d).fin.map Value.bool),row tN 67 1 (au d).nx.length Mm,bh (dQ (Value.int .i64) 3 Mm (au d).nx),row tM 3 1 (iR d).length ((iR d).map (Value.int .i64)),box iD 32 4 [.int .i64 (au d).L,.int .i64 (au d).s,tF,tN],row cv 3 1 (dj (au d)).length ((dj (au d)).map (Value.int .i64)),box oe 32 4 [.int .i64 d.L,.int .i64 0,x.2.1,x.2.2.1],row x.2.1 4 1 ((dM (dj (au d)) x.1).map fun q=>(au d).fin.getD q false).length (((dM (dj (au d)) x.1).map fun q=>(au d).fin.getD q false).map Value.bool),row x.2.2.1 67 1 ((dM (dj (au d)) x.1).map (iX (au d))).length x.2.2.2,bh (dQ (Value.int .i64) 3 x.2.2.2 ((dM (dj (au d)) x.1).map (iX (au d))))]) (fun x=>x.1≤(dj (au d)).length∧x.2.2.2.length=((dM (dj (au d)) x.1).map (iX (au d))).length∧aB x.2.1∧aB x.2.2.1) (fun x=>(dj (au d)).length - x.1) ((0,.slice none 0 0,.slice none 0 0,[])) aU ?_ ?_ ?_ ?_
 ·exact ⟨Nat.zero_le _,rfl,cq,cq⟩
 ·exact aU
 ·exact fun w hw=>by have h1:=((hw.lW (f:=Value.int .i64) 3).ghost 4 1).ghost 67 1;exact h1.pk [0,1,2,3,4,5,6,7,8,10,11,9]
 ·intro x aV _ c7
  have WD:=aV.2.2.1
  have WC:=aV.2.2.2
  refine .sr fun _ dm=>?_
  refine .v (.lss rfl rfl) (.nt dm ?_)
  refine .seq fun _ dD=>?_
  refine .aA rfl (fun bx=>?_) (fun bx=>?_)
  ·have TS:x.1<(au d).fin.length:=by omega
   have hgl:((dM (dj (au d)) x.1).map fun q=>(au d).fin.getD q false).length=(dM (dj (au d)) x.1).length:=List.length_map ..
   have Mu:((dM (dj (au d)) x.1).map (iX (au d))).length=(dM (dj (au d)) x.1).length:=List.length_map ..
   have MR:=OC Uv (k:=x.1) (by omega)
   have hrw:=hT.row x.1 TS
   have hfb:=Bp (dj (au d)) x.1
   refine .skip ?_
   refine .ab (dD _ ?_)
   refine .seq fun _ bJ=>?_
   refine .block ?_
   refine .sr fun _ bP=>?_
   refine .mv rfl ?_
   refine .v (.iN bX rfl rfl (hr:=(by exact a8))) ?_
   refine .v (.ff cQ rfl (by exact a8) (by omega)) ?_
   refine .as rfl (.as rfl (.nt bP ?_))
   refine .seq fun _ ct=>?_
   refine .sr fun _ cK=>?_
   refine .mv rfl (.v (.fieldAddr dp rfl) (.v (.aa jx rfl ax rfl) ?_))
   refine .v (.aZ gf rfl (by exact a8)) ?_
   refine .v (.lss rfl rfl) (.nt cK ?_)
   refine .aA rfl (fun cB=>?_) (fun cB=>?_)
   ·refine .exit (.ai (.ar ?_))
    refine .ab (bJ _ ?_)
    refine .region ?_
    refine .v (.add rfl rfl (by omega)) ?_
    refine .mv rfl (.nil ?_)
    first | refine .ab (c7 _ _ ((x.1+1,z,yl,x.2.2.2++[Fw])) ⟨by dsimp only;omega,by dsimp only;rw [j8 qQ];simp [aV.2.1],hg,Tp⟩ (by dsimp only;omega) (aU) (fun w hw=>by
      dsimp only
      have e0:y=(au d).L.toNat:=(by omega)
      have e5:=wX hT TS
      rw [e0,Nat.sub_self,List.replicate_zero,List.append_nil,← e5,List.take_length,e5,Cb.cells] at hw
      have e1:((dM (dj (au d)) (x.1+1)).map fun q=>(au d).fin.getD q false).map Value.bool=((dM (dj (au d)) x.1).map fun q=>(au d).fin.getD q false).map Value.bool++[Value.bool ((au d).fin.getD x.1 false)].flatMap (·.cells.toList):=(by rw [j8 qQ];simp [Value.cells])
      have e2:((dM (dj (au d)) (x.1+1)).map (iX (au d)))=((dM (dj (au d)) x.1).map (iX (au d)))++[iX (au d) x.1]:=(by rw [j8 qQ,List.map_append];rfl)
      have e3:((dM (dj (au d)) (x.1+1)).map fun q=>(au d).fin.getD q false).length=((dM (dj (au d)) x.1).map fun q=>(au d).fin.getD q false).length+1:=(by rw [j8 qQ];simp)
      rw [e1,e3,e2,kL aV.2.1,List.length_append]
      rw [← e5] at hw
      exact HW.tR (own:=[_,_,_,_,_,_,_,_,_,_,_,_]) 11 rfl hw)) | refine .ab (c7 _ _ ((x.1+1,x.2)) ⟨by dsimp only;omega,by dsimp only;rw [pX (by omega)];exact aV.2.1,WD,WC⟩ (by dsimp only;omega) (aU) (fun w hw=>by dsimp only;rw [pX (by omega)];exact hw))
   ·have qQ:¬ (dj (au d)).getD x.1 0<((dM (dj (au d)) x.1).length:Int):=by omega
    refine .skip ?_
    refine .ab (ct _ ?_)
    refine .sr fun _ cW=>?_
    refine .v (.fieldAddr kn rfl) (.v (.aa cQ rfl ax rfl) ?_)
    refine .Kr bX uL rfl rfl rfl (by omega) (by omega) (by omega) trivial rfl (fun Fw=>?_)
    refine .shape 12 rfl (fun Cb=>?_)
    refine .as rfl (.nt cW ?_)
    refine .seq fun _ c8=>?_
    refine .sr fun _ dw=>?_
    refine .v (.fieldAddr eQ rfl) (.v (.aa lC rfl ax rfl) (.mv rfl ?_))
    refine .v (.iN kQ rfl rfl (hr:=(by exact a8))) ?_
    refine .v (.jD hY rfl (by exact a8) (by omega)) ?_
    refine .v (.aZ bX rfl (by exact (cR.QM 4 _ rfl (jr Jo (by omega))))) ?_
    refine .mv rfl (.nt dw (.block ?_))
    refine .bE (X:=Nat) [(1,_),(2,_),(4,_),(5,_),(6,_),(7,_),(8,_),(10,_),(28,_),(29,_),(30,_),(47,_),(48,_)] (fun y=>[(49,.int .i64 (y:Int))]) (fun y=>[box jV 32 4 [.int .i64 d.L,.int .i64 d.s,vF,vN],box eu 32 4 [.int .i64 0,.int .i64 0,.slice none 0 0,.slice none 0 0],row tF 4 1 (au d).fin.length ((au d).fin.map Value.bool),row tN 67 1 (au d).nx.length Mm,bh (dQ (Value.int .i64) 3 Mm (au d).nx),row tM 3 1 (iR d).length ((iR d).map (Value.int .i64)),box iD 32 4 [.int .i64 (au d).L,.int .i64 (au d).s,tF,tN],row cv 3 1 (dj (au d)).length ((dj (au d)).map (Value.int .i64)),box oe 32 4 [.int .i64 d.L,.int .i64 0,x.2.1,x.2.2.1],row x.2.1 4 1 ((dM (dj (au d)) x.1).map fun q=>(au d).fin.getD q false).length (((dM (dj (au d)) x.1).map fun q=>(au d).fin.getD q false).map Value.bool),row x.2.2.1 67 1 ((dM (dj (au d)) x.1).map (iX (au d))).length x.2.2.2,bh (dQ (Value.int .i64) 3 x.2.2.2 ((dM (dj (au d)) x.1).map (iX (au d)))),row Fw 3 1 (au d).L.toNat (((iX (au d) x.1).take y++List.replicate ((au d).L.toNat - y) 0).map (Value.int .i64))]) (fun y=>y≤(au d).L.toNat) (fun y=>(au d).L.toNat - y) (0) aU ?_ ?_ ?_ ?_
    ·exact Nat.zero_le _
    ·exact aU
    ·exact fun w hw=>by have e:(((iX (au d) x.1).take 0++List.replicate ((au d).L.toNat - 0) 0).map (Value.int .i64))=List.replicate d.L.toNat (Value.int .i64 0):=(by simp [hTL]);rw [e];exact hw
    ·intro y c6 _ dE
     refine .sr fun _ dR=>?_
     refine .v (.lss rfl rfl) (.nt dR ?_)
     refine .seq fun _ dO=>?_
     refine .aA rfl (fun cZ=>?_) (fun cZ=>?_)
     ·have Ti:=hT.to x.1 y TS (by omega)
      refine .skip ?_
      refine .ab (dO _ ?_)
      refine .seq fun _ eJ=>?_
      refine .block ?_
      refine .sr fun _ eY=>?_
      refine .mv rfl ?_
      refine .v (.iN bX rfl rfl (hr:=(by exact (cR.QM 4 _ rfl (jr Jo (by omega)))))) ?_
      refine .v (.ff cQ rfl (by exact (cR.QM 4 _ rfl (jr Jo (by omega)))) (by omega)) ?_
      refine .as rfl (.as rfl (.nt eY ?_))
      refine .region ?_
      refine .mv rfl (.mv rfl (.mv rfl (.mv rfl ?_)))
      refine .v (.iK bX rfl rfl (hr:=(by exact a8))) ?_
      refine .v (.ff cQ rfl (by exact a8) (by omega)) ?_
      refine .v (.iN bX rfl rfl (hr:=(by exact a8))) ?_
      refine .di 12 rfl tf rfl rfl rfl rfl (by omega) (cs':=(((iX (au d) x.1).take (y+1)++List.replicate ((au d).L.toNat - (y+1)) 0).map (Value.int .i64))) (by exact Ic hT TS (by omega)) trivial ?_
      refine .nil (.ag ?_)
      refine .ab (eJ _ ?_)
      refine .region ?_
      refine .v (.add rfl rfl (by omega)) ?_
      refine .mv rfl (.nil ?_)
      refine .ab (dE _ _ (y+1) (by omega) (by omega) (aU) (fun w hw=>hw))
     ·refine .exit (.ai (.ai (.ar ?_)))
      refine .ab (c8 _ ?_)
      refine .seq fun _ eI=>?_
      refine .oM (X:=Value) [(1,_),(2,_),(4,_),(5,_),(6,_),(7,_),(10,_),(28,_),(29,_),(30,_)] (fun z=>[]) (fun z=>[box jV 32 4 [.int .i64 d.L,.int .i64 d.s,vF,vN],box eu 32 4 [.int .i64 0,.int .i64 0,.slice none 0 0,.slice none 0 0],row tF 4 1 (au d).fin.length ((au d).fin.map Value.bool),row tN 67 1 (au d).nx.length Mm,bh (dQ (Value.int .i64) 3 Mm (au d).nx),row tM 3 1 (iR d).length ((iR d).map (Value.int .i64)),box iD 32 4 [.int .i64 (au d).L,.int .i64 (au d).s,tF,tN],row cv 3 1 (dj (au d)).length ((dj (au d)).map (Value.int .i64)),box oe 32 4 [.int .i64 d.L,.int .i64 0,z,x.2.2.1],row z 4 1 (((dM (dj (au d)) x.1).map fun q=>(au d).fin.getD q false).length+1) (((dM (dj (au d)) x.1).map fun q=>(au d).fin.getD q false).map Value.bool++[Value.bool ((au d).fin.getD x.1 false)].flatMap (·.cells.toList)),row x.2.2.1 67 1 ((dM (dj (au d)) x.1).map (iX (au d))).length x.2.2.2,bh (dQ (Value.int .i64) 3 x.2.2.2 ((dM (dj (au d)) x.1).map (iX (au d)))),row Fw 3 1 (au d).L.toNat (((iX (au d) x.1).take y++List.replicate ((au d).L.toNat - y) 0).map (Value.int .i64))]) (fun z=>aB z) aU (fun _ hJ=>?_) (fun z hg=>?_)
      ·try (conv=>enter [2,2];simp only [cE])
       refine .held 10 mixed ?_
       refine .F 0 10 11 1 rfl (.fieldAddr dp rfl) trivial ?_
       refine .F 1 9 11 3 rfl (.aa jx rfl ax rfl) trivial ?_
       refine .F 2 8 11 7 rfl (.fieldAddr dp rfl) trivial ?_
       refine .F 3 7 11 15 rfl (.aa jx rfl ax rfl) trivial ?_
       refine .F 4 6 11 31 rfl (.move rfl) trivial ?_
       refine .F 5 5 11 63 rfl (.iN gf rfl rfl (hr:=(by exact a8))) trivial ?_
       refine .F 6 4 11 127 rfl (.oK vk rfl (by exact a8) (by omega)) trivial ?_
       refine .O 7 3 11 255 rfl ?_
       refine .lit (xs:=[.tmp 68]) gf Mz rfl rfl rfl (by intro a ha;simp at ha;subst ha;rfl) (by decide) (by decide) trivial rfl (fun t2=>?_)
       refine .nil ?_
       try (conv=>enter [2,2];simp only [cE])
       refine ay.back Go.Sx.hle ?_
       refine .O 8 2 11 511 rfl ?_
       refine .BH 9 rfl gf Mz rfl (by decide) rfl rfl rfl (by exact a8) aJ (by omega) (by omega) trivial rfl (fun Hf Hq=>?_)
       refine .nil ?_
       try (conv=>enter [2,2];simp only [cE])
       refine ay.back Go.Sx.hle ?_
       refine .F 9 1 11 1023 rfl (.fieldAddr dp rfl) trivial ?_
       refine .O 10 0 11 2047 rfl ?_
       refine .ah 8 (us:=[Hf]) (cs':=[.int .i64 d.L,.int .i64 0,Hf,x.2.2.1]) rfl M1 rfl rfl (by rw [aB.cells (by assumption)]) rfl aJ (aT rfl) rfl trivial ?_
       refine .nil ?_
       try (conv=>enter [2,2];simp only [cE])
       refine ay.ir 11 cx rfl cx ?_
       refine .nil ?_
       refine .fu ?_
       exact hJ _ _ (Hf) Hq (aU) (fun w hw=>by first | exact hw.dG [0,1,2,3,4,5,6,7,8,9,10,11,12] (by decide) qn)
      ·skip
       refine .ab (eI _ ?_)
       refine .region ?_
       refine .v (.fieldAddr eQ rfl) (.v (.aa lC rfl ax rfl) (.mv rfl ?_))
       refine .fF 10 rfl kQ JD rfl (by decide) rfl (by intro k hk;cases hk;rfl) (by rw [Cb.cells];rfl) (by rw [Cb.cells];exact aw Cb.one bY) (by omega) (by omega) (by decide) rfl rfl (fun yl _ Tp=>?_)
       refine .v (.fieldAddr eQ rfl) ?_
       refine .ah 8 (us:=[yl]) (cs':=[.int .i64 d.L,.int .i64 0,z,yl]) rfl M0 rfl rfl (by rw [aB.cells (by assumption)]) rfl aJ (aT rfl) rfl trivial ?_
       refine .nil (.ag ?_)
       refine .ab (bJ _ ?_)
       refine .region ?_
       refine .v (.add rfl rfl (by omega)) ?_
       refine .mv rfl (.nil ?_)
       first | refine .ab (c7 _ _ ((x.1+1,z,yl,x.2.2.2++[Fw])) ⟨by dsimp only;omega,by dsimp only;rw [j8 qQ];simp [aV.2.1],hg,Tp⟩ (by dsimp only;omega) (aU) (fun w hw=>by
        dsimp only
        have e0:y=(au d).L.toNat:=(by omega)
        have e5:=wX hT TS
        rw [e0,Nat.sub_self,List.replicate_zero,List.append_nil,← e5,List.take_length,e5,Cb.cells] at hw
        have e1:((dM (dj (au d)) (x.1+1)).map fun q=>(au d).fin.getD q false).map Value.bool=((dM (dj (au d)) x.1).map fun q=>(au d).fin.getD q false).map Value.bool++[Value.bool ((au d).fin.getD x.1 false)].flatMap (·.cells.toList):=(by rw [j8 qQ];simp [Value.cells])
        have e2:((dM (dj (au d)) (x.1+1)).map (iX (au d)))=((dM (dj (au d)) x.1).map (iX (au d)))++[iX (au d) x.1]:=(by rw [j8 qQ,List.map_append];rfl)
        have e3:((dM (dj (au d)) (x.1+1)).map fun q=>(au d).fin.getD q false).length=((dM (dj (au d)) x.1).map fun q=>(au d).fin.getD q false).length+1:=(by rw [j8 qQ];simp)
        rw [e1,e3,e2,kL aV.2.1,List.length_append]
        rw [← e5] at hw
        exact HW.tR (own:=[_,_,_,_,_,_,_,_,_,_,_,_]) 11 rfl hw)) | refine .ab (c7 _ _ ((x.1+1,x.2)) ⟨by dsimp only;omega,by dsimp only;rw [pX (by omega)];exact aV.2.1,WD,WC⟩ (by dsimp only;omega) (aU) (fun w hw=>by dsimp only;rw [pX (by omega)];exact hw))
  ·have IQ:dM (dj (au d)) x.1=fe (au d):=by rw [show x.1=(au d).fin.length by omega];rfl
   have Uq:=aV.2.1
   rw [IQ] at Uq
   rw [IQ]
   refine .own' [box jV 32 4 [.int .i64 d.L,.int .i64 d.s,vF,vN],box eu 32 4 [.int .i64 0,.int .i64 0,.slice none 0 0,.slice none 0 0],row tF 4 1 (au d).fin.length ((au d).fin.map Value.bool),row tN 67 1 (au d).nx.length Mm,bh (dQ (Value.int .i64) 3 Mm (au d).nx),row tM 3 1 (iR d).length ((iR d).map (Value.int .i64)),box iD 32 4 [.int .i64 (au d).L,.int .i64 (au d).s,tF,tN],row cv 3 1 (dj (au d)).length ((dj (au d)).map (Value.int .i64)),box oe 32 4 [.int .i64 d.L,.int .i64 0,x.2.1,x.2.2.1],row x.2.1 4 1 (eX (au d)).fin.length ((eX (au d)).fin.map Value.bool),row x.2.2.1 67 1 (eX (au d)).nx.length x.2.2.2,bh (dQ (Value.int .i64) 3 x.2.2.2 (eX (au d)).nx)] (fun w hw=>hw) ?_
   refine .exit (.ai (.ai (.ar ?_)))
   refine .ab (cJ _ ?_)
   refine .sr fun _ fH=>?_
   refine .v (.ak eZ rfl ax rfl rfl) ?_
   refine .call UF rfl (fun w hw=>(by have h:=Kg w _ (eX (au d)) (oD.own 9 hw Uq rfl rfl rfl);rw [hqs] at h;exact h)) trivial rfl ?_
   rintro r o ⟨mF,mN,mM,Tf,rfl,Cg,TB,Tz,smM,rfl⟩
   rw [hQe] at Cg
   rw [hQe,hQn]
   refine .mv rfl (.v (.extract rfl rfl) (.v (.extract rfl rfl) ?_))
   refine .alloc lR rfl rfl trivial rfl (fun RB=>?_)
   refine .ah 16 (us:=[.int .i64 (minD d).L,.int .i64 (minD d).s,mF,mN]) (cs':=[.int .i64 (minD d).L,.int .i64 (minD d).s,mF,mN]) rfl jW rfl rfl rfl rfl aJ (aT rfl) rfl trivial ?_
   refine .as rfl (.nt fH ?_)
   refine .sr fun _ gq=>?_
   refine .mv rfl ?_
   refine .v (.aZ bX rfl (by exact a8)) ?_
   refine .kT (n:=(iR d).length) bX uL rfl rfl rfl (by omega) (by omega) trivial rfl (fun mv2=>?_)
   refine .shape 17 rfl (fun Ue=>?_)
   refine .as rfl (.nt gq ?_)
   refine .seq fun _ iT=>?_
   refine .sr fun _ iZ=>?_
   refine .mv rfl ?_
   refine .v (.aZ bX rfl (by exact a8)) ?_
   refine .mv rfl (.nt iZ (.block ?_))
   refine .bE (X:=Nat) [(2,_),(6,_),(13,_),(14,_),(15,_),(87,_),(88,_)] (fun q=>[(89,.int .i64 (q:Int))]) (fun q=>[box jV 32 4 [.int .i64 d.L,.int .i64 d.s,vF,vN],box eu 32 4 [.int .i64 0,.int .i64 0,.slice none 0 0,.slice none 0 0],row tF 4 1 (au d).fin.length ((au d).fin.map Value.bool),row tN 67 1 (au d).nx.length Mm,bh (dQ (Value.int .i64) 3 Mm (au d).nx),row tM 3 1 (iR d).length ((iR d).map (Value.int .i64)),box iD 32 4 [.int .i64 (au d).L,.int .i64 (au d).s,tF,tN],row cv 3 1 (dj (au d)).length ((dj (au d)).map (Value.int .i64)),box oe 32 4 [.int .i64 d.L,.int .i64 0,x.2.1,x.2.2.1],row x.2.1 4 1 (eX (au d)).fin.length ((eX (au d)).fin.map Value.bool),row x.2.2.1 67 1 (eX (au d)).nx.length x.2.2.2,bh (dQ (Value.int .i64) 3 x.2.2.2 (eX (au d)).nx),row mF 4 1 (minD d).fin.length ((minD d).fin.map Value.bool),row mN 67 1 (minD d).nx.length Tf,bh (dQ (Value.int .i64) 3 Tf (minD d).nx),row mM 3 1 (iR (eX (au d))).length ((iR (eX (au d))).map (Value.int .i64)),box RB 32 4 [.int .i64 (minD d).L,.int .i64 (minD d).s,mF,mN],row mv2 3 1 (iR d).length (((mapM d).take q++List.replicate (d.fin.length - q) 0).map (Value.int .i64))]) (fun q=>q≤d.fin.length) (fun q=>d.fin.length - q) (0) aU ?_ ?_ ?_ ?_
   ·exact Nat.zero_le _
   ·exact aU
   ·exact fun w hw=>by have e:(((mapM d).take 0++List.replicate (d.fin.length - 0) 0).map (Value.int .i64))=List.replicate (iR d).length (Value.int .i64 0):=(by simp [hnt]);rw [e];exact hw
   ·intro q lO _ iS
    refine .sr fun _ jy=>?_
    refine .v (.lss rfl rfl) (.nt jy ?_)
    refine .seq fun _ kf=>?_
    refine .aA rfl (fun iz=>?_) (fun iz=>?_)
    ·have O5:q<d.fin.length:=by omega
     have Fz:(mapM d).length=d.fin.length:=by simp [mapM]
     have me:na d (q:Int):=⟨by omega,by omega⟩
     have ML:=Ly hv me
     have Pa:=LI me
     rw [Int.toNat_natCast] at ML Pa
     refine .skip ?_
     refine .ab (kf _ ?_)
     refine .seq fun _ kB=>?_
     refine .block ?_
     refine .sr fun _ ke=>?_
     refine .mv rfl ?_
     refine .v (.iN bX rfl rfl (hr:=(by exact a8))) ?_
     refine .v (.ff cQ rfl (by exact a8) (by omega)) ?_
     refine .as rfl (.as rfl (.nt ke ?_))
     refine .sr fun _ nj=>?_
     refine .mv rfl (.mv rfl ?_)
     refine .v (.iN bX rfl rfl (hr:=(by exact a8))) ?_
     refine .di 17 rfl tf rfl rfl rfl rfl (by omega) (cs':=((((mapM d).take q++[-1])++List.replicate (d.fin.length - (q+1)) 0).map (Value.int .i64))) (by exact fJ (Value.int .i64) _ 0 (-1) d.fin.length q (by rw [List.length_take];omega) (by omega)) trivial ?_
     refine .nt nj ?_
     refine .sr fun _ lE=>?_
     refine .mv rfl (.v (.geq rfl rfl) (.nt lE ?_))
     refine .aA rfl (fun gn=>?_) (fun gn=>?_)
     ·have hm:(q:Int)∈eU d:=by
       by_cases hm:(q:Int)∈eU d
       ·exact hm
       ·rw [if_neg hm] at ML;omega
      rw [if_pos hm] at ML Pa
      have hpi:=N5 hm
      have hpb:=hpi.2
      have hqr:=Ie hv hpi
      have hqb:=RV hQ hqr
      have YX:=hqb.1
      have YW:=hqb.2
      have aa1:(iR (eX (au d))).length=(eX (au d)).fin.length:=mC _ _ _
      have mg:(mapM d).getD q 0=(iR (eX (au d))).getD ((dj (au d)).getD ((iR d).getD q 0).toNat 0).toNat 0:=by
       rw [Pa,ML];exact (Lx hQ hqr).symm
      have Zb:gH (au d) ((bV (eU d) (q:Int):Nat):Int)=(dj (au d)).getD ((iR d).getD q 0).toNat 0:=by rw [ML];rfl
      rw [Zb] at YX YW
      refine .region ?_
      refine .mv rfl (.mv rfl (.mv rfl (.mv rfl (.mv rfl ?_))))
      refine .v (.iK bX rfl rfl (hr:=(by exact a8))) ?_
      refine .v (.ff cQ rfl (by exact a8) (by omega)) ?_
      refine .v (.iK bX rfl rfl (hr:=(by exact a8))) ?_
      refine .v (.ff cQ rfl (by exact a8) (by omega)) ?_
      refine .v (.iN bX rfl rfl (hr:=(by exact a8))) ?_
      refine .di 17 rfl tf rfl rfl rfl rfl (by omega) (cs':=((((mapM d).take q++[(mapM d).getD q 0])++List.replicate (d.fin.length - (q+1)) 0).map (Value.int .i64))) (by rw [mg];exact NF (Value.int .i64) _ _ (-1) _ (by rw [List.length_take];omega)) trivial ?_
      refine .nil (.ag ?_)
      refine .ab (kB _ ?_)
      refine .region ?_
      refine .v (.add rfl rfl (by omega)) ?_
      refine .mv rfl (.nil ?_)
      refine .ab (iS _ _ (q+1) (by omega) (by omega) (aU) (fun w hw=>by rw [aO 0 (mapM d) q (by omega)];exact hw))
     ·have hm:(q:Int) ∉ eU d:=by
       intro hm
       rw [if_pos hm] at ML;omega
      rw [if_neg hm] at Pa
      refine .skip (.ag ?_)
      refine .ab (kB _ ?_)
      refine .region ?_
      refine .v (.add rfl rfl (by omega)) ?_
      refine .mv rfl (.nil ?_)
      refine .ab (iS _ _ (q+1) (by omega) (by omega) (aU) (fun w hw=>by rw [aO 0 (mapM d) q (by omega),Pa];exact hw))
    ·refine .exit (.ai (.ai (.ar ?_)))
     refine .ab (iT _ ?_)
     refine .sr fun _ oG=>?_
     refine .v (.ak eZ rfl ax rfl rfl) (.mv rfl ?_)
     refine .ah 1 (us:=[.int .i64 (minD d).L,.int .i64 (minD d).s,mF,mN]) (cs':=[.int .i64 (minD d).L,.int .i64 (minD d).s,mF,mN]) rfl jW rfl rfl rfl rfl aJ (aT rfl) rfl trivial ?_
     refine .as rfl (.nt oG (.ret ?_))
     refine .cO [.cell 2 32,.tmp 3] rfl (.cons (.cell eZ rfl ax rfl rfl) (.cons (.tmp rfl) (.nil))) (fun w hw=>⟨_,_,?_,rfl,.of (hw.pk [12,13,14,17])⟩)
     have e:q=d.fin.length:=(by omega)
     have Fz:(mapM d).length=d.fin.length:=(by simp [mapM])
     refine ⟨mF,mN,mv2,Tf,rfl,Cg,TB,Tz,Ue,?_⟩
     rw [hnt,e,Nat.sub_self,List.replicate_zero,List.append_nil,← Fz,List.take_length];rfl
end Go.Proofs.YtbibnpdnmmgacaaGreatDoor
namespace Go.Proofs.YtbibnpdnmmgacaaGreatDoor
open Go.Sx Go.RowKit
set_option maxHeartbeats 400000 in
theorem FH (w:World) (v:Value) (d:bB) (h:oD (fun _=>False) w v d):aK Tryz.prog 15 [v] w (fun r o=>∃ (vF vN:Value) (rs:List Value),r = .agg #[.int .i64 (lF d).L,.int .i64 (lF d).s,vF,vN]∧rs.length=(lF d).nx.length∧aB vF∧aB vN∧o=kg 4 3 67 vF vN rs (lF d)):=by
 have h0:=h
 obtain ⟨vF,vN,rfl,hF,hN⟩:=h
 have MW:=hF
 have MV:=hN
 obtain ⟨rs,yM,DX,DY⟩:=hN
 have sF:=hF.sl
 have sN:=DX.sl
 have BU:=hF.le
 have WJ:=DX.le
 unfold lQ at hF
 refine aC Tryz.func15 rfl (aT rfl) ?_
 refine .sr fun _ bl=>?_
 refine .cS (E:=32) (cs:=[.int .i64 d.L,.int .i64 d.s,vF,vN]) rfl rfl rfl trivial rfl (fun jV=>?_)
 refine .alloc lR rfl rfl trivial rfl (fun eu=>?_)
 refine .nt bl ?_
 refine .seq fun _ bg=>?_
 refine .sr fun _ bW=>?_
 refine .v (.ak eZ rfl ax rfl rfl) ?_
 refine .call HF rfl (fun w hw=>jN w _ d (h0.at hw)) trivial rfl ?_
 rintro r o ⟨rfl,rfl⟩
 refine .v (.neq rfl rfl) (.nt bW ?_)
 refine .df rfl (fun bx=>?_) (fun bx=>?_)
 ·have Tn:¬ VD d:=fun h=>bx ((gj d).2 h)
  refine .sr fun _ cr=>?_
  refine .v (.build (parts:=[]) (cs:=#[.int .i64 0,.int .i64 0,.slice none 0 0,.slice none 0 0]) rfl (by kernel_rfl)) ?_
  refine .ah 1 (us:=[.int .i64 0,.int .i64 0,.slice none 0 0,.slice none 0 0]) (cs':=[.int .i64 0,.int .i64 0,.slice none 0 0,.slice none 0 0]) rfl jW rfl rfl rfl rfl aJ (aT rfl) rfl trivial ?_
  refine .nt cr (.ret (.ae ?_))
  refine .own' (kg 4 3 67 (.slice none 0 0) (.slice none 0 0) [] yv++[box eu 32 4 [.int .i64 0,.int .i64 0,.slice none 0 0,.slice none 0 0]]) (fun w hw=>by have h1:=(((hw.pk [1]).ghost 4 1).ghost 67 1).lW (f:=Value.int .i64) 3;exact h1.pk [1,2,3,0]) ?_
  refine .cO [.cell 2 32] rfl (.cons (.cell eZ rfl ax rfl rfl) (.nil)) (fun w hw=>⟨_,_,?_,rfl,.of (hw.pk [0,1,2])⟩)
  rw [show lF d=yv from if_neg Tn]
  exact ⟨_,_,[],rfl,rfl,cq,cq,rfl⟩
 ·have hv:VD d:=(gj d).1 bx
  refine .skip ?_
  refine .ab (bg _ ?_)
  refine .sr fun _ cJ=>?_
  refine .v (.ak eZ rfl ax rfl rfl) ?_
  refine .call aan rfl (fun w hw=>H3 w _ d (h0.at hw) hv) trivial rfl ?_
  rintro r o ⟨mF,mN,mS,Tf,rfl,Cg,TB,Tz,smS,rfl⟩
  refine .mv rfl (.v (.extract rfl rfl) (.v (.extract rfl rfl) ?_))
  refine .alloc lR rfl rfl trivial rfl (fun ga=>?_)
  refine .ah 6 (us:=[.int .i64 (minD d).L,.int .i64 (minD d).s,mF,mN]) (cs':=[.int .i64 (minD d).L,.int .i64 (minD d).s,mF,mN]) rfl jW rfl rfl rfl rfl aJ (aT rfl) rfl trivial ?_
  refine .as rfl (.nt cJ ?_)
  refine .sr fun _ cU=>?_
  refine .v (.ak eZ rfl ax rfl rfl) ?_
  refine .ah 1 (us:=[.int .i64 (minD d).L,.int .i64 (minD d).s,mF,mN]) (cs':=[.int .i64 (minD d).L,.int .i64 (minD d).s,mF,mN]) rfl jW rfl rfl rfl rfl aJ (aT rfl) rfl trivial ?_
  refine .nt cU (.ret ?_)
  refine .cO [.cell 2 32] rfl (.cons (.cell eZ rfl ax rfl rfl) (.nil)) (fun w hw=>⟨_,_,?_,rfl,.of (hw.pk [2,3,4])⟩)
  rw [show lF d=minD d from if_pos hv]
  exact ⟨mF,mN,Tf,rfl,Cg,TB,Tz,rfl⟩
end Go.Proofs.YtbibnpdnmmgacaaGreatDoor
namespace Go.Sx
open Go.RowKit
def Jl:kc:=⟨0,0,0,0,[]⟩
theorem MB.own {C:Cx} {on:List bk} {w:World} {vE:Value} {E:TypeId} {n:kc} (i:Nat) (hw:HW C on w) (hi:on[i]? = some (row vE E 3 n.es.length (rE n.es))):MB (fun _=>False) w (.agg #[.int .i64 n.L,.int .i64 n.S,uv n.st,uv n.fi,vE]) n:=
 ⟨vE,rfl,(cR.own (C:=C) i hi w hw).mono fun b _ _=>⟨id,rfl⟩⟩
end Go.Sx
