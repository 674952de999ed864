import Derived.Test.YtbibnpdnmmgacaaGreatDoorKZs
import Derived.Test.YtbibnpdnmmgacaaGreatDoorKZr
import Derived.Test.YtbibnpdnmmgacaaGreatDoorKZq
import Derived.Test.YtbibnpdnmmgacaaGreatDoorKZo
import Derived.Test.YtbibnpdnmmgacaaGreatDoorKZu
import Derived.Test.YtbibnpdnmmgacaaGreatDoorKZm
import Derived.Test.YtbibnpdnmmgacaaGreatDoorKZd
set_option linter.unusedVariables false
set_option linter.unusedSimpArgs false
set_option maxRecDepth 100000
namespace Go.Proofs.YtbibnpdnmmgacaaGreatDoor
open Go.Sx Go.RowKit
theorem Ss {e:Ex} {ep:Int} {n:kc} (h:(ep=4∧mX e=true∧n=Jl)∨(ep=0∧mX e=false∧∃ es:List iV,n=Mr e es∧es.Perm (yu e)∧es.Pairwise fun a b=>qf b a=false)) (h0:ep=0) (I8:cg e 2=0∧dt e≤10):VN n∧n.L=2∧∀ w,yB n w↔LE e w:=by
 obtain ⟨_,hb,es,rfl,hp,hs⟩:=h.resolve_left (fun h=>by have:=h.1;omega)
 have hz:=An e
 obtain ⟨hv,ha⟩:=Sr hp hs (iu I8.1).2.1 hb (by omega)
 exact ⟨hv,rfl,ha⟩
theorem Dn {e:Ex} {a b:Int} {P Q R T:Prop} (h:(a=4∧mX e=true∧P)∨(a=0∧mX e=false∧Q)) (k:(b=4∧mX e=true∧R)∨(b=0∧mX e=false∧T)) (hn:¬ (a=0∧b=0)):a=4∧b=4:=by
 rcases h with ⟨a1,a2,_⟩ | ⟨a1,a2,_⟩ <;> rcases k with ⟨b1,b2,_⟩ | ⟨b1,b2,_⟩
 ·exact ⟨a1,b1⟩
 ·rw [a2] at b2;cases b2
 ·rw [a2] at b2;cases b2
 ·exact absurd ⟨a1,b1⟩ hn
set_option maxHeartbeats 8000000 in
theorem Iq (w:World) (e:Ex) (s:Value) (h:dy (bD (fun _=>False) w) s e.kids) (hT:vp w):aK Tryz.prog 6 [.agg #[.int .i64 e.op,.int .i64 e.lt,s]] w (fun r o=>r = .bool true∧o=[]):=by
 have ss:=h.sl
 refine aC Tryz.func6 rfl (aT rfl) ?_
 refine .sr fun _ bl=>?_
 refine .cS (E:=24) (cs:=[.int .i64 e.op,.int .i64 e.lt,s]) rfl rfl rfl trivial rfl (fun jV=>?_)
 refine .as rfl (.nt bl ?_)
 refine .seq fun _ bg=>?_
 refine .sr fun _ bW=>?_
 refine .v (.ak aM rfl ax rfl rfl) ?_
 refine .call co7 rfl (fun w hw=>Ld w e s 10 (by decide) (h.at hw)) trivial rfl ?_
 rintro r o ⟨⟨b0,rfl,QG⟩,rfl⟩
 refine .v (.not rfl) (.nt bW ?_)
 refine .eW rfl (fun bx=>?_) (fun bx=>?_)
 ·refine .sr fun _ cr=>?_
  refine .call QL rfl (fun w hw=>nD w (hT.at hw)) trivial rfl ?_
  rintro r o ⟨rfl,rfl⟩
  refine .as rfl (.nt cr (.ret (.ae ?_)))
  refine .aG rfl rfl (fun w hw=>⟨_,_,?_,rfl,.of (hw.pk [])⟩)
  exact ⟨rfl,rfl⟩
 ·have I8:=QG (by simpa using bx)
  obtain ⟨d,er,hbe,BT⟩:=Me I8.1 (by omega)
  refine .skip ?_
  refine .ab (bg _ ?_)
  refine .sr fun _ cJ=>?_
  refine .v (.ak aM rfl ax rfl rfl) ?_
  refine .call aaz rfl (fun w hw=>EX w e s (h.at hw) I8.1 I8.2 (hT.at hw)) trivial rfl ?_
  rintro r o ⟨e1,n1,v1,Jr,vj,rfl,rfl⟩
  conv=>enter [2,2];dsimp only [kg,List.set_cons_zero,List.set_cons_succ,List.cons_append,List.nil_append]
  refine .mv rfl (.v (.extract rfl rfl) (.v (.extract rfl rfl) ?_))
  refine .alloc HD rfl rfl trivial rfl (fun ga=>?_)
  refine .ah 2 (us:=[.int .i64 n1.L,.int .i64 n1.S,uv n1.st,uv n1.fi,v1]) (cs':=[.int .i64 n1.L,.int .i64 n1.S,uv n1.st,uv n1.fi,v1]) rfl B9 rfl rfl rfl rfl aJ (aT rfl) rfl trivial ?_
  refine .as rfl (.nt cJ ?_)
  refine .sr fun _ cU=>?_
  refine .v (.ak aM rfl ax rfl rfl) ?_
  refine .call aay rfl (fun w hw=>H2 w e s (h.at hw) I8.1 I8.2 (hT.at hw)) trivial rfl ?_
  rintro r o ⟨e2,n2,v2,Ra,ku,rfl,rfl⟩
  conv=>enter [2,2];dsimp only [kg,List.set_cons_zero,List.set_cons_succ,List.cons_append,List.nil_append]
  refine .mv rfl (.v (.extract rfl rfl) (.v (.extract rfl rfl) ?_))
  refine .alloc HD rfl rfl trivial rfl (fun D4=>?_)
  refine .ah 4 (us:=[.int .i64 n2.L,.int .i64 n2.S,uv n2.st,uv n2.fi,v2]) (cs':=[.int .i64 n2.L,.int .i64 n2.S,uv n2.st,uv n2.fi,v2]) rfl B9 rfl rfl rfl rfl aJ (aT rfl) rfl trivial ?_
  refine .as rfl (.nt cU ?_)
  refine .seq fun _ c7=>?_
  refine .sr fun _ dm=>?_
  refine .mv rfl (.v (.neq rfl rfl) (.mv rfl ?_))
  refine .bQ (g:=40) rfl (fun lV=>?_) (fun lV=>?_)
  ·have Bd:=lV
   try simp only [bs] at Bd
   refine .pass rfl rfl (lV) rfl ?_
   refine .pass rfl rfl (lV) rfl ?_
   refine .v (.bw rfl (lV) rfl) (.nt dm ?_)
   refine .cD rfl (rfl) ?_
   have h4:e1=4∧e2=4:=Dn Jr Ra (by rintro ⟨rfl,rfl⟩;simp_all)
   refine .sr fun _ dD=>?_
   refine .mv rfl (.v (.eql rfl rfl) (.mv rfl ?_))
   refine .e8 (g:=46) rfl (decide_eq_true h4.1) (fun q7=>?_)
   refine .val _ (.move rfl) ⟨_,rfl,gB q7⟩ rfl ?_
   refine .val _ (.eql rfl rfl) ⟨_,rfl,gB q7⟩ rfl ?_
   refine .v (.bw rfl (q7) rfl) (.mv rfl ?_)
   refine .e8 (g:=50) rfl (decide_eq_true h4.2) (fun wH=>?_)
   refine .call QL rfl (fun w hw=>nD w (hT.at hw)) ⟨_,rfl,gB wH⟩ rfl ?_
   rintro r o ⟨rfl,rfl⟩
   refine .v (.bw rfl (wH) rfl) (.as rfl (.nt dD (.ret (.ae ?_))))
   refine .aG rfl rfl (fun w hw=>⟨_,_,?_,rfl,.of (hw.pk [])⟩)
   exact ⟨rfl,rfl⟩
  ·have Bd:=lV
   try simp only [bs] at Bd
   refine .val _ (.move rfl) ⟨_,rfl,gB lV⟩ rfl ?_
   refine .val _ (.neq rfl rfl) ⟨_,rfl,gB lV⟩ rfl ?_
   refine .v (.cH rfl (lV) rfl) (.nt dm ?_)
   refine .df rfl (fun cB=>?_) (fun cB=>?_)
   ·have h4:e1=4∧e2=4:=Dn Jr Ra (by rintro ⟨rfl,rfl⟩;simp_all)
    refine .sr fun _ bJ=>?_
    refine .mv rfl (.v (.eql rfl rfl) (.mv rfl ?_))
    refine .e8 (g:=46) rfl (decide_eq_true h4.1) (fun q7=>?_)
    refine .val _ (.move rfl) ⟨_,rfl,gB q7⟩ rfl ?_
    refine .val _ (.eql rfl rfl) ⟨_,rfl,gB q7⟩ rfl ?_
    refine .v (.bw rfl (q7) rfl) (.mv rfl ?_)
    refine .e8 (g:=50) rfl (decide_eq_true h4.2) (fun wH=>?_)
    refine .call QL rfl (fun w hw=>nD w (hT.at hw)) ⟨_,rfl,gB wH⟩ rfl ?_
    rintro r o ⟨rfl,rfl⟩
    refine .v (.bw rfl (wH) rfl) (.as rfl (.nt bJ (.ret (.ae ?_))))
    refine .aG rfl rfl (fun w hw=>⟨_,_,?_,rfl,.of (hw.pk [])⟩)
    exact ⟨rfl,rfl⟩
   ·have he1:e1=0:=by simpa using lV
    have he2:e2=0:=by simpa using cB
    have Wt:=Ss Jr he1 I8
    have Ws:=(Ra.resolve_left (fun h=>by have:=h.1;omega)).2.2
    refine .skip ?_
    refine .ab (c7 _ ?_)
    refine .sr fun _ bP=>?_
    refine .v (.ak aM rfl ax rfl rfl) ?_
    refine .call US rfl (fun w hw=>Li w e s (h.at hw) 2 (d,er) hbe) trivial rfl ?_
    rintro r o ⟨vF,vN,rs,rfl,Tk,W6,Tx,rfl⟩
    conv=>enter [2,2];dsimp only [kg,List.set_cons_zero,List.set_cons_succ,List.cons_append,List.nil_append]
    refine .mv rfl (.v (.extract rfl rfl) (.v (.extract rfl rfl) ?_))
    refine .alloc lR rfl rfl trivial rfl (fun oe=>?_)
    refine .ah 8 (us:=[.int .i64 d.L,.int .i64 d.s,vF,vN]) (cs':=[.int .i64 d.L,.int .i64 d.s,vF,vN]) rfl jW rfl rfl rfl rfl aJ (aT rfl) rfl trivial ?_
    refine .as rfl (.nt bP ?_)
    refine .sr fun _ ct=>?_
    refine .v (.ak yz rfl ax rfl rfl) ?_
    refine .call UO rfl (fun w hw=>y8 w _ n1 (MB.own 1 hw rfl) Wt.1 (hT.at hw)) trivial rfl ?_
    rintro r o ⟨x,ex,xF,xN,xS,xrs,WW,Q6,sxF,sxN,rfl,rfl⟩
    conv=>enter [2,2];dsimp only [kg,List.set_cons_zero,List.set_cons_succ,List.cons_append,List.nil_append]
    refine .mv rfl (.v (.extract rfl rfl) (.v (.extract rfl rfl) (.v (.extract rfl rfl) ?_)))
    refine .alloc lR rfl rfl trivial rfl (fun tn=>?_)
    refine .ah 12 (us:=[.int .i64 x.L,.int .i64 x.s,xF,xN]) (cs':=[.int .i64 x.L,.int .i64 x.s,xF,xN]) rfl jW rfl rfl rfl rfl aJ (aT rfl) rfl trivial ?_
    refine .as rfl (.as rfl (.nt ct ?_))
    refine .sr fun _ cK=>?_
    refine .v (.ak yz rfl ax rfl rfl) ?_
    refine .call UO rfl (fun w hw=>y8 w _ n2 (MB.own 3 hw rfl) Ws.1 (hT.at hw)) trivial rfl ?_
    rintro r o ⟨y,ey,yF,yN,yS,yrs,WV,Un,syF,syN,rfl,rfl⟩
    conv=>enter [2,2];dsimp only [kg,List.set_cons_zero,List.set_cons_succ,List.cons_append,List.nil_append]
    refine .mv rfl (.v (.extract rfl rfl) (.v (.extract rfl rfl) (.v (.extract rfl rfl) ?_)))
    refine .alloc lR rfl rfl trivial rfl (fun qk=>?_)
    refine .ah 16 (us:=[.int .i64 y.L,.int .i64 y.s,yF,yN]) (cs':=[.int .i64 y.L,.int .i64 y.s,yF,yN]) rfl jW rfl rfl rfl rfl aJ (aT rfl) rfl trivial ?_
    refine .as rfl (.as rfl (.nt cK ?_))
    refine .seq fun _ cW=>?_
    refine .sr fun _ c8=>?_
    refine .mv rfl (.v (.neq rfl rfl) (.mv rfl ?_))
    refine .bQ (g:=72) rfl (fun cn=>?_) (fun cn=>?_)
    ·have lj:=cn
     try simp only [bs] at lj
     refine .pass rfl rfl (cn) rfl ?_
     refine .pass rfl rfl (cn) rfl ?_
     refine .v (.bw rfl (cn) rfl) (.mv rfl ?_)
     refine .pass rfl rfl rfl rfl ?_
     refine .pass rfl rfl rfl rfl ?_
     refine .v (.bw rfl (rfl) rfl) (.nt c8 ?_)
     refine .cD rfl (rfl) ?_
     refine .sr fun _ dw=>?_
     refine .mv rfl ?_
     refine .call Ae rfl (fun w hw=>rP w er (by rcases BT with h | h;exact .inr h.1;exact .inl h.1)) trivial rfl ?_
     rintro r o ⟨rfl,rfl⟩
     refine .mv rfl ?_
     refine .e8 (g:=82) rfl (rfl) (fun jm=>?_)
     refine .val _ (.move rfl) ⟨_,rfl,gB jm⟩ rfl ?_
     refine .call Ae rfl (fun w hw=>rP w ex (by rcases WW with h | h;exact .inr h.1;exact .inl h.1)) ⟨_,rfl,gB jm⟩ rfl ?_
     rintro r o ⟨rfl,rfl⟩
     refine .v (.bw rfl (jm) rfl) (.mv rfl ?_)
     refine .e8 (g:=86) rfl (rfl) (fun jl=>?_)
     refine .val _ (.move rfl) ⟨_,rfl,gB jl⟩ rfl ?_
     refine .call Ae rfl (fun w hw=>rP w ey (by rcases WV with h | h;exact .inr h.1;exact .inl h.1)) ⟨_,rfl,gB jl⟩ rfl ?_
     rintro r o ⟨rfl,rfl⟩
     refine .v (.bw rfl (jl) rfl) (.mv rfl ?_)
     refine .e8 (g:=90) rfl (rfl) (fun j7=>?_)
     refine .call QL rfl (fun w hw=>nD w (hT.at hw)) ⟨_,rfl,gB j7⟩ rfl ?_
     rintro r o ⟨rfl,rfl⟩
     refine .v (.bw rfl (j7) rfl) (.as rfl (.nt dw (.ret (.ae ?_))))
     refine .aG rfl rfl (fun w hw=>⟨_,_,?_,rfl,.of (hw.pk [])⟩)
     exact ⟨rfl,rfl⟩
    ·have lj:=cn
     try simp only [bs] at lj
     refine .val _ (.move rfl) ⟨_,rfl,gB cn⟩ rfl ?_
     refine .val _ (.neq rfl rfl) ⟨_,rfl,gB cn⟩ rfl ?_
     refine .v (.cH rfl (cn) rfl) (.mv rfl ?_)
     refine .bQ (g:=76) rfl (fun jR=>?_) (fun jR=>?_)
     ·have xr:=jR
      try simp only [bs] at xr
      refine .pass rfl rfl (jR) rfl ?_
      refine .pass rfl rfl (jR) rfl ?_
      refine .v (.bw rfl (jR) rfl) (.nt c8 ?_)
      refine .cD rfl (rfl) ?_
      refine .sr fun _ dE=>?_
      refine .mv rfl ?_
      refine .call Ae rfl (fun w hw=>rP w er (by rcases BT with h | h;exact .inr h.1;exact .inl h.1)) trivial rfl ?_
      rintro r o ⟨rfl,rfl⟩
      refine .mv rfl ?_
      refine .e8 (g:=82) rfl (rfl) (fun jm=>?_)
      refine .val _ (.move rfl) ⟨_,rfl,gB jm⟩ rfl ?_
      refine .call Ae rfl (fun w hw=>rP w ex (by rcases WW with h | h;exact .inr h.1;exact .inl h.1)) ⟨_,rfl,gB jm⟩ rfl ?_
      rintro r o ⟨rfl,rfl⟩
      refine .v (.bw rfl (jm) rfl) (.mv rfl ?_)
      refine .e8 (g:=86) rfl (rfl) (fun jl=>?_)
      refine .val _ (.move rfl) ⟨_,rfl,gB jl⟩ rfl ?_
      refine .call Ae rfl (fun w hw=>rP w ey (by rcases WV with h | h;exact .inr h.1;exact .inl h.1)) ⟨_,rfl,gB jl⟩ rfl ?_
      rintro r o ⟨rfl,rfl⟩
      refine .v (.bw rfl (jl) rfl) (.mv rfl ?_)
      refine .e8 (g:=90) rfl (rfl) (fun j7=>?_)
      refine .call QL rfl (fun w hw=>nD w (hT.at hw)) ⟨_,rfl,gB j7⟩ rfl ?_
      rintro r o ⟨rfl,rfl⟩
      refine .v (.bw rfl (j7) rfl) (.as rfl (.nt dE (.ret (.ae ?_))))
      refine .aG rfl rfl (fun w hw=>⟨_,_,?_,rfl,.of (hw.pk [])⟩)
      exact ⟨rfl,rfl⟩
     ·have xr:=jR
      try simp only [bs] at xr
      refine .val _ (.move rfl) ⟨_,rfl,gB jR⟩ rfl ?_
      refine .val _ (.neq rfl rfl) ⟨_,rfl,gB jR⟩ rfl ?_
      refine .v (.cH rfl (jR) rfl) (.nt c8 ?_)
      refine .df rfl (fun cZ=>?_) (fun cZ=>?_)
      ·refine .sr fun _ dR=>?_
       refine .mv rfl ?_
       refine .call Ae rfl (fun w hw=>rP w er (by rcases BT with h | h;exact .inr h.1;exact .inl h.1)) trivial rfl ?_
       rintro r o ⟨rfl,rfl⟩
       refine .mv rfl ?_
       refine .e8 (g:=82) rfl (rfl) (fun jm=>?_)
       refine .val _ (.move rfl) ⟨_,rfl,gB jm⟩ rfl ?_
       refine .call Ae rfl (fun w hw=>rP w ex (by rcases WW with h | h;exact .inr h.1;exact .inl h.1)) ⟨_,rfl,gB jm⟩ rfl ?_
       rintro r o ⟨rfl,rfl⟩
       refine .v (.bw rfl (jm) rfl) (.mv rfl ?_)
       refine .e8 (g:=86) rfl (rfl) (fun jl=>?_)
       refine .val _ (.move rfl) ⟨_,rfl,gB jl⟩ rfl ?_
       refine .call Ae rfl (fun w hw=>rP w ey (by rcases WV with h | h;exact .inr h.1;exact .inl h.1)) ⟨_,rfl,gB jl⟩ rfl ?_
       rintro r o ⟨rfl,rfl⟩
       refine .v (.bw rfl (jl) rfl) (.mv rfl ?_)
       refine .e8 (g:=90) rfl (rfl) (fun j7=>?_)
       refine .call QL rfl (fun w hw=>nD w (hT.at hw)) ⟨_,rfl,gB j7⟩ rfl ?_
       rintro r o ⟨rfl,rfl⟩
       refine .v (.bw rfl (j7) rfl) (.as rfl (.nt dR (.ret (.ae ?_))))
       refine .aG rfl rfl (fun w hw=>⟨_,_,?_,rfl,.of (hw.pk [])⟩)
       exact ⟨rfl,rfl⟩
      ·have XQ:er=0:=by simpa using cn
       have hex:ex=0:=by simpa using jR
       have hey:ey=0:=by simpa using cZ
       have gd:D5 e d:=(BT.resolve_left (fun h=>by have:=h.1;omega)).2
       have gx:D5 e x:=Kb Wt.1 Wt.2.1 Wt.2.2 (WW.resolve_left (fun h=>by have:=h.1;omega)).2
       have gy:D5 e y:=Kb Ws.1 Ws.2.1 Ws.2.2 (WV.resolve_left (fun h=>by have:=h.1;omega)).2
       have f1:=gd.find gx
       have f2:=gx.find gy
       refine .skip ?_
       refine .ab (cW _ ?_)
       refine .sr fun _ dO=>?_
       refine .v (.ak eZ rfl ax rfl rfl) ?_
       refine .call Ng rfl (fun w hw=>FH w _ d (oD.own 5 hw Tk rfl rfl rfl)) trivial rfl ?_
       rintro r o ⟨mF,mN,Tf,rfl,Cg,TB,Tz,rfl⟩
       conv=>enter [2,2];dsimp only [kg,List.set_cons_zero,List.set_cons_succ,List.cons_append,List.nil_append]
       refine .alloc lR rfl rfl trivial rfl (fun abi=>?_)
       refine .ah 20 (us:=[.int .i64 (lF d).L,.int .i64 (lF d).s,mF,mN]) (cs':=[.int .i64 (lF d).L,.int .i64 (lF d).s,mF,mN]) rfl jW rfl rfl rfl rfl aJ (aT rfl) rfl trivial ?_
       refine .nt dO ?_
       refine .sr fun _ eJ=>?_
       refine .v (.ak eZ rfl ax rfl rfl) (.v (.ak eZ rfl ax rfl rfl) ?_)
       refine .call UN rfl (fun w hw=>Km w _ _ d x (oD.own 5 hw Tk rfl rfl rfl) (oD.own 9 hw Q6 rfl rfl rfl)) trivial rfl ?_
       rintro r o ⟨pv,rfl,Xc,rfl⟩
       refine .mv rfl (.v (.extract rfl rfl) (.v (.extract rfl rfl) (.v (.extract rfl rfl) (.v (.extract rfl rfl) (.as rfl (.as rfl (.as rfl (.as rfl (.nt eJ ?_)))))))))
       refine .sr fun _ eY=>?_
       refine .v (.ak eZ rfl ax rfl rfl) (.v (.ak eZ rfl ax rfl rfl) ?_)
       refine .call UN rfl (fun w hw=>Km w _ _ x y (oD.own 9 hw Q6 rfl rfl rfl) (oD.own 13 hw Un rfl rfl rfl)) trivial rfl ?_
       rintro r o ⟨qv,rfl,sqv,rfl⟩
       refine .mv rfl (.v (.extract rfl rfl) (.v (.extract rfl rfl) (.v (.extract rfl rfl) (.v (.extract rfl rfl) (.as rfl (.as rfl (.as rfl (.as rfl (.nt eY ?_)))))))))
       refine .seq fun _ eI=>?_
       try (conv=>enter [2,2];simp only [cE])
       refine .held 33 mixed ?_
       refine .F 0 32 33 1 rfl (.ak eZ rfl ax rfl rfl) trivial ?_
       refine .O 1 31 33 3 rfl ?_
       refine .call HF rfl (fun w hw=>jN w _ (lF d) (oD.own 17 hw Cg rfl rfl rfl)) trivial rfl ?_
       rintro r o ⟨rfl,rfl⟩
       refine .nil ?_
       try (conv=>enter [2,2];simp only [cE])
       refine ay.back Go.Sx.hle ?_
       refine .F 2 30 33 7 rfl (.eql rfl rfl) trivial ?_
       refine .F 3 29 33 15 rfl (.move rfl) trivial ?_
       refine .e8 (g:=114) rfl (decide_eq_true ((gj _).2 gd.Yn)) (fun r6=>?_)
       refine .F 4 28 33 31 rfl (.ak eZ rfl ax rfl rfl) ⟨_,rfl,gB r6⟩ ?_
       refine .F 6 27 33 95 rfl (.ak eZ rfl ax rfl rfl) ⟨_,rfl,gB r6⟩ ?_
       refine .O 5 26 33 127 rfl ?_
       refine .call Ng rfl (fun w hw=>FH w _ x (oD.own 9 hw Q6 rfl rfl rfl)) ⟨_,rfl,gB r6⟩ rfl ?_
       rintro r o ⟨aF,aN,ars,rfl,Zg,saF,saN,rfl⟩
       conv=>enter [2,2];dsimp only [kg,List.set_cons_zero,List.set_cons_succ,List.cons_append,List.nil_append]
       refine .nil ?_
       try (conv=>enter [2,2];simp only [cE])
       refine ay.back Go.Sx.hle ?_
       refine .O 7 25 33 255 rfl ?_
       refine .call UP rfl (fun w hw=>Gm w _ _ (lF x) (lF d) (oD.own 23 hw Zg rfl rfl rfl) (oD.own 17 hw Cg rfl rfl rfl)) ⟨_,rfl,gB r6⟩ rfl ?_
       rintro r o ⟨rfl,rfl⟩
       refine .nil ?_
       try (conv=>enter [2,2];simp only [cE])
       refine ay.back Go.Sx.hle ?_
       refine .F 8 24 33 511 rfl (.bw rfl (r6) rfl) trivial ?_
       refine .F 9 23 33 1023 rfl (.move rfl) trivial ?_
       refine .e8 (g:=120) rfl (decide_eq_true (gx.min gd)) (fun r5=>?_)
       refine .F 10 22 33 2047 rfl (.ak eZ rfl ax rfl rfl) ⟨_,rfl,gB r5⟩ ?_
       refine .F 12 21 33 6143 rfl (.ak eZ rfl ax rfl rfl) ⟨_,rfl,gB r5⟩ ?_
       refine .O 11 20 33 8191 rfl ?_
       refine .call Ng rfl (fun w hw=>FH w _ y (oD.own 13 hw Un rfl rfl rfl)) ⟨_,rfl,gB r5⟩ rfl ?_
       rintro r o ⟨bF,bN,brs,rfl,Zd,sbF,sbN,rfl⟩
       conv=>enter [2,2];dsimp only [kg,List.set_cons_zero,List.set_cons_succ,List.cons_append,List.nil_append]
       refine .nil ?_
       try (conv=>enter [2,2];simp only [cE])
       refine ay.back Go.Sx.hle ?_
       refine .O 13 19 33 16383 rfl ?_
       refine .call UP rfl (fun w hw=>Gm w _ _ (lF y) (lF d) (oD.own 26 hw Zd rfl rfl rfl) (oD.own 17 hw Cg rfl rfl rfl)) ⟨_,rfl,gB r5⟩ rfl ?_
       rintro r o ⟨rfl,rfl⟩
       refine .nil ?_
       try (conv=>enter [2,2];simp only [cE])
       refine ay.back Go.Sx.hle ?_
       refine .F 14 18 33 32767 rfl (.bw rfl (r5) rfl) trivial ?_
       refine .F 15 17 33 65535 rfl (.move rfl) trivial ?_
       refine .e8 (g:=126) rfl (decide_eq_true (gy.min gd)) (fun C6=>?_)
       refine .F 16 16 33 131071 rfl (.move rfl) ⟨_,rfl,gB C6⟩ ?_
       refine .F 17 15 33 262143 rfl (.bw rfl (C6) rfl) trivial ?_
       refine .F 18 14 33 524287 rfl (.move rfl) trivial ?_
       refine .e8 (g:=129) rfl (f1.2) (fun C5=>?_)
       refine .F 19 13 33 1048575 rfl (.move rfl) ⟨_,rfl,gB C5⟩ ?_
       refine .F 20 12 33 2097151 rfl (.bw rfl (C5) rfl) trivial ?_
       refine .F 21 11 33 4194303 rfl (.move rfl) trivial ?_
       refine .e8 (g:=132) rfl (f2.2) (fun xn=>?_)
       refine .F 22 10 33 8388607 rfl (.move rfl) ⟨_,rfl,gB xn⟩ ?_
       refine .F 23 9 33 16777215 rfl (.eql rfl rfl) ⟨_,rfl,gB xn⟩ ?_
       refine .F 24 8 33 33554431 rfl (.bw rfl (xn) rfl) trivial ?_
       refine .F 25 7 33 67108863 rfl (.move rfl) trivial ?_
       refine .e8 (g:=136) rfl (decide_eq_true f1.1) (fun xm=>?_)
       refine .F 26 6 33 134217727 rfl (.move rfl) ⟨_,rfl,gB xm⟩ ?_
       refine .F 27 5 33 268435455 rfl (.eql rfl rfl) ⟨_,rfl,gB xm⟩ ?_
       refine .F 28 4 33 536870911 rfl (.bw rfl (xm) rfl) trivial ?_
       refine .F 29 3 33 1073741823 rfl (.move rfl) trivial ?_
       refine .O 30 2 33 2147483647 rfl ?_
       refine .e8 (g:=140) rfl (decide_eq_true f2.1) (fun C4=>?_)
       refine .call QL rfl (fun w hw=>nD w (hT.at hw)) ⟨_,rfl,gB C4⟩ rfl ?_
       rintro r o ⟨rfl,rfl⟩
       refine .nil ?_
       try (conv=>enter [2,2];simp only [cE])
       refine ay.back Go.Sx.hle ?_
       refine .F 31 1 33 4294967295 rfl (.bw rfl (C4) rfl) trivial ?_
       refine .F 32 0 33 8589934591 rfl (.assign rfl) trivial ?_
       refine .done cx ?_
       refine .ab (eI _ ?_)
       refine .ret ?_
       refine .aG rfl rfl (fun w hw=>⟨_,_,?_,rfl,.of (hw.pk [])⟩)
       exact ⟨rfl,rfl⟩
end Go.Proofs.YtbibnpdnmmgacaaGreatDoor
namespace Go.Sx
open Go.ChangeShapes Go.WideShapes Go.ChangeAt Go.RowKit
section
variable {H : Type} {enc : TypeId × Value → H} {P : Program} {W : World}
def Nc (P:Program) (t:TypeId):Bool:=match P.underlying t with
 | some (.struct fs)=>match fs[0]?,fs[1]?,fs[2]? with
  | some a,some b,some c=>
   (a.offset == 0 && b.offset == 1 && c.offset == 2) && (P.cellsOf a.type == 1 && P.cellsOf b.type == 1 && P.cellsOf c.type == 1) &&
   (match P.underlying a.type,P.underlying b.type with | some (.int .i64),some (.int .i64)=>true | _,_=>false) &&
   (match P.underlying c.type with | some (.slice q)=>q == t | _=>false) &&
   (P.cellsOf t == 3)
  | _,_,_=>false
 | _=>false
theorem Vi {t:TypeId} (hB:Nc P t=true):∀ (fuel:Nat) (cs:List Value) (x:DataW H × List MemPlace),DataW.trod enc P W 0 (fun _=>true) true fuel t cs=some x →
  ∃ (e:Ex) (s:Value),cs=[.int .i64 e.op,.int .i64 e.lt,s]∧dy (bD (fun _=>False) W) s e.kids:=by
 unfold Nc at hB
 split at hB
 case h_2=>cases hB
 rename_i fs hu
 split at hB
 case h_2=>cases hB
 rename_i a b c ha hb hc
 simp only [Bool.and_eq_true,beq_iff_eq] at hB
 obtain ⟨⟨⟨⟨⟨⟨oa,ob⟩,oc⟩,⟨⟨ca,cb⟩,cc⟩⟩,hI⟩,hS⟩,TO⟩:=hB
 split at hI
 case h_2=>cases hI
 rename_i uA uB
 split at hS
 case h_2=>cases hS
 rename_i q uq
 obtain rfl:q=t:=by simpa using hS
 intro fuel
 induction fuel using Nat.strongRecOn with
 | _ fuel ih=>
 intro cs x h
 obtain ⟨xs,n,hfn,_,hl,_,hf⟩:=DataW.trod_struct hu h
 have fa:=hf 0 a ha
 have fb:=hf 1 b hb
 have fc:=hf 2 c hc
 have AO:∀ (i:Nat) (g:Field),fs[i]? = some g→∃ y,xs[i]? = some y:=fun i g hg=>by
  have:i<xs.length:=by
   have h1:=(Array.getElem?_eq_some_iff.1 hg).1
   omega
  exact ⟨xs[i],List.getElem?_eq_getElem this⟩
 obtain ⟨ya,ea⟩:=AO 0 a ha
 obtain ⟨yb,eb⟩:=AO 1 b hb
 obtain ⟨yc,ec⟩:=AO 2 c hc
 rw [ea,oa,ca] at fa
 rw [eb,ob,cb] at fb
 rw [ec,oc,cc] at fc
 rw [TO] at hl
 obtain ⟨v0,v1,v2,rfl⟩:∃ v0 v1 v2,cs=[v0,v1,v2]:=by
  match cs,hl with
  | [v0,v1,v2],_=>exact ⟨_,_,_,rfl⟩
 simp at fa fb fc
 obtain ⟨z0,h0,_,_⟩:=DataW.trod_int uA fa
 obtain ⟨z1,h1,_,_⟩:=DataW.trod_int uB fb
 cases h0;cases h1
 rcases DataW.trod_slice uq fc with ⟨e2,_⟩ | ⟨y,len,cap,elems,rest,m,hnm,e2,_,_,hlc,vo,hlen,hel,_,_⟩
 ·cases e2
  exact ⟨.mk z0 z1 [],_,rfl,dy.nil _⟩
 ·cases e2
  have hx:∀ i,i<len→∃ p:Ex × Value,(W.cell? (y.add (i * 3))=some (.int .i64 p.1.op)∧W.cell? (y.add (i * 3+1))=some (.int .i64 p.1.lt)∧W.cell? (y.add (i * 3+2))=some p.2)∧dy (bD (fun _=>False) W) p.2 p.1.kids:=fun i hi=>by
   have key:=hel i hi
   rw [List.getElem?_eq_getElem (by omega)] at key
   obtain ⟨cs',h1,h2⟩:=Option.bind_eq_some_iff.1 key
   obtain ⟨e,s,rfl,hr⟩:=ih m (by omega) cs' _ h2
   rw [TO] at h1
   obtain ⟨_,aaP,JV⟩:=World.cells?_some h1
   have c0:=JV 0 (by simp)
   have c1:=JV 1 (by simp)
   have c2:=JV 2 (by simp)
   rw [Go.Deep.add_add] at c0 c1 c2
   simp at c0 c1 c2
   exact ⟨(e,s),⟨c0,c1,c2⟩,hr⟩
  letI:Inhabited Value:=⟨undef⟩
  obtain ⟨B,hBB⟩:=Go.Deep.choose_lt hx
  have eo:((List.range len).map fun i=>(B i).1).length=len:=by simp
  have mW:((List.range len).map fun i=>(B i).2).length=len:=by simp
  have hkg:∀ i,i<len→((List.range len).map fun i=>(B i).1).getD i default=(B i).1:=fun i hi=>by simp [List.getD_eq_getElem?_getD,hi]
  have hsg:∀ i,i<len→((List.range len).map fun i=>(B i).2).getD i undef=(B i).2:=fun i hi=>by simp [List.getD_eq_getElem?_getD,hi]
  refine ⟨.mk z0 z1 ((List.range len).map fun i=>(B i).1),_,rfl,dy.mk _ ((List.range len).map fun i=>(B i).2) _ (by rw [mW];exact eo.symm) ?_ fun i hi=>?_⟩
  ·show yR _ (.slice (some y) len cap) 3 ((List.range len).map fun i=>(B i).1).length _
   rw [eo]
   refine ⟨some y,cap,rfl,hlc,by omega,?_,fun _ _=>rfl,?_⟩
   ·show (dc ((List.range len).map fun i=>(B i).1) _).length=_
    rw [nM _ _ (by rw [mW,eo]),eo]
   ·intro ad j u qJ hj
    cases qJ
    refine ⟨id,?_⟩
    have hj:(dc ((List.range len).map fun i=>(B i).1) ((List.range len).map fun i=>(B i).2))[j]? = some u:=hj
    have hjn:j<len * 3:=by
     have:=(List.getElem?_eq_some_iff.1 hj).1
     rw [nM _ _ (by rw [mW,eo]),eo] at this;exact this
    have hdiv:j / 3<len:=by omega
    have e:=J8 (j / 3) ((List.range len).map fun i=>(B i).1) ((List.range len).map fun i=>(B i).2) (by rw [mW,eo]) (by rw [eo];exact hdiv)
    have e':=congrArg (fun q=>q[j % 3]?) e
    simp only [List.getElem?_take,List.getElem?_drop] at e'
    rw [if_pos (Nat.mod_lt _ (by omega)),show j / 3 * 3+j % 3=j from by omega,hj,hkg _ hdiv,hsg _ hdiv] at e'
    obtain ⟨⟨b1,b2,b3⟩,_⟩:=hBB (j / 3) hdiv
    have h3:j % 3=0∨j % 3=1∨j % 3=2:=by omega
    rcases h3 with MO | Tq | gG
    ·rw [MO] at e'
     simp at e'
     rw [show j=j / 3 * 3 from by omega,b1,e']
    ·rw [Tq] at e'
     simp at e'
     rw [show j=j / 3 * 3+1 from by omega,b2,e']
    ·rw [gG] at e'
     simp at e'
     rw [show j=j / 3 * 3+2 from by omega,b3,e']
  ·have ox:i<len:=by rw [← eo];exact hi
   rw [hsg i ox]
   show dy _ _ (((List.range len).map fun i=>(B i).1).getD i default).kids
   rw [hkg i ox]
   exact (hBB i ox).2
theorem Od {t:TypeId} (hB:Nc P t=true) {v:Value} {d:DataW H} {p:List MemPlace} (M9:Value.okWide P W .any 0 t v) (h:DataW.Trod enc P W 0 (fun _=>true) true t v d p) :
  ∃ (e:Ex) (s:Value),v = .agg #[.int .i64 e.op,.int .i64 e.lt,s]∧dy (bD (fun _=>False) W) s e.kids:=by
 obtain ⟨fuel,hf⟩:=h
 have mg:∃ fs,P.underlying t=some (.struct fs):=by
  unfold Nc at hB
  split at hB
  ·exact ⟨_,‹_›⟩
  ·cases hB
 obtain ⟨fs,hu⟩:=mg
 obtain ⟨cs,rfl,_⟩:=okWide_struct hu M9
 have I5:DataW.trod enc P W 0 (fun _=>true) true fuel t cs.toList=some (d,p):=by simpa [Value.cells] using hf
 obtain ⟨e,s,h1,h2⟩:=Vi hB fuel _ _ I5
 have this:cs = #[.int .i64 e.op,.int .i64 e.lt,s]:=by
  apply Array.toList_inj.1;simpa using h1
 exact ⟨e,s,by rw [this],h2⟩
end
end Go.Sx
