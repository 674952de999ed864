import Derived.Ground.SlsfProg
import Derived.Shelf.SlSortCmp.WholeK
import Derived.Test.YtbibnpdnmmgacaaGreatDoorProg
import Derived.Test.YtbibnpdnmmgacaaGreatDoorKZk
import Derived.Test.YtbibnpdnmmgacaaGreatDoorKZg
set_option linter.unusedVariables false
set_option linter.unusedSimpArgs false
set_option maxRecDepth 100000
namespace Go.Proofs
open Go.Shelf
def Tryz.s8:Go.Shelf.Ren:=⟨fun | 6=>57 | 15=>110 | 14=>109 | 28=>163 | 29=>164 | 20=>155 | 21=>156 | 22=>157 | 23=>158 | 24=>159 | 25=>160 | 26=>161 | 27=>162 | 46=>179 | 47=>180 | 48=>181 | 49=>182 | 50=>183 | 57=>201 | n=>n,fun | 22=>43 | 24=>98 | 25=>100 | 3=>3 | 39=>130 | 0=>0 | 53=>206 | 55=>42 | 4=>4 | 46=>200 | 45=>199 | 50=>138 | 5=>5 | 9=>9 | 66=>224 | 70=>188 | 76=>240 | 77=>128 | n=>n,fun | n=>n⟩
theorem Tryz.yJ:Go.Proofs.SlLaysF0.n6 Tryz.prog Tryz.s8:={
 mixed:=by kernel_rfl
 f6:=⟨Tryz.f57.name,by decide,Tryz.func57.trans (congrArg some (by kernel_rfl))⟩
 f14:=⟨Tryz.f109.name,by decide,Tryz.func109.trans (congrArg some (by kernel_rfl))⟩
 f15:=Tryz.func110.trans (congrArg some (by kernel_rfl))
 f20:=⟨Tryz.f155.name,by decide,Tryz.func155.trans (congrArg some (by kernel_rfl))⟩
 f21:=⟨Tryz.f156.name,by decide,Tryz.func156.trans (congrArg some (by kernel_rfl))⟩
 f22:=⟨Tryz.f157.name,by decide,Tryz.func157.trans (congrArg some (by kernel_rfl))⟩
 f23:=⟨Tryz.f158.name,by decide,Tryz.func158.trans (congrArg some (by kernel_rfl))⟩
 f24:=⟨Tryz.f159.name,by decide,Tryz.func159.trans (congrArg some (by kernel_rfl))⟩
 f25:=⟨Tryz.f160.name,by decide,Tryz.func160.trans (congrArg some (by kernel_rfl))⟩
 f26:=⟨Tryz.f161.name,by decide,Tryz.func161.trans (congrArg some (by kernel_rfl))⟩
 f27:=⟨Tryz.f162.name,by decide,Tryz.func162.trans (congrArg some (by kernel_rfl))⟩
 f28:=Tryz.func163.trans (congrArg some (by kernel_rfl))
 f29:=Tryz.func164.trans (congrArg some (by kernel_rfl))
 f46:=⟨Tryz.f179.name,by decide,Tryz.func179.trans (congrArg some (by kernel_rfl))⟩
 f47:=Tryz.func180.trans (congrArg some (by kernel_rfl))
 f48:=Tryz.func181.trans (congrArg some (by kernel_rfl))
 f49:=⟨Tryz.f182.name,by decide,Tryz.func182.trans (congrArg some (by kernel_rfl))⟩
 f50:=⟨Tryz.f183.name,by decide,Tryz.func183.trans (congrArg some (by kernel_rfl))⟩
 f57:=⟨Tryz.f201.name,by decide,Tryz.func201.trans (congrArg some (by kernel_rfl))⟩
 t0:=Tryz.underlying0
 a0:=Tryz.isAgg0
 z0:=Tryz.sizeOf0
 v0:=Tryz.zeroValue0
 t3:=Tryz.underlying3
 a3:=Tryz.isAgg3
 z3:=Tryz.sizeOf3
 v3:=Tryz.zeroValue3
 t4:=Tryz.underlying4
 a4:=Tryz.isAgg4
 z4:=Tryz.sizeOf4
 v4:=Tryz.zeroValue4
 t5:=Tryz.underlying5
 a5:=Tryz.isAgg5
 z5:=Tryz.sizeOf5
 v5:=Tryz.zeroValue5
 t9:=Tryz.underlying9
 a9:=Tryz.isAgg9
 z9:=Tryz.sizeOf9
 v9:=Tryz.zeroValue9
 t22:=Tryz.underlying43
 a22:=Tryz.isAgg43
 z22:=Tryz.sizeOf43
 v22:=Tryz.zeroValue43
 t25:=Tryz.underlying100
 a25:=Tryz.isAgg100
 z25:=Tryz.sizeOf100
 v25:=Tryz.zeroValue100
 t39:=Tryz.underlying130
 a39:=Tryz.isAgg130
 z39:=Tryz.sizeOf130
 v39:=Tryz.zeroValue130
 t45:=Tryz.underlying199
 a45:=Tryz.isAgg199
 z45:=Tryz.sizeOf199
 v45:=Tryz.zeroValue199
 t46:=Tryz.underlying200
 a46:=Tryz.isAgg200
 z46:=Tryz.sizeOf200
 v46:=Tryz.zeroValue200
 t50:=Tryz.underlying138
 a50:=Tryz.isAgg138
 z50:=Tryz.sizeOf138
 v50:=Tryz.zeroValue138
 t53:=Tryz.underlying206
 a53:=Tryz.isAgg206
 z53:=Tryz.sizeOf206
 v53:=Tryz.zeroValue206
 t55:=Tryz.underlying42
 a55:=Tryz.isAgg42
 z55:=Tryz.sizeOf42
 v55:=Tryz.zeroValue42
 t66:=Tryz.underlying224
 a66:=Tryz.isAgg224
 z66:=Tryz.sizeOf224
 v66:=Tryz.zeroValue224
 t70:=Tryz.underlying188
 a70:=Tryz.isAgg188
 z70:=Tryz.sizeOf188
 v70:=Tryz.zeroValue188
 t76:=Tryz.underlying240
 a76:=Tryz.isAgg240
 z76:=Tryz.sizeOf240
 v76:=Tryz.zeroValue240
 t77:=Tryz.underlying128
 a77:=Tryz.isAgg128
 z77:=Tryz.sizeOf128
 v77:=Tryz.zeroValue128 }
def Tryz.rB:Go.Shelf.Ren:=⟨fun | 6=>126 | 15=>110 | 14=>168 | 28=>163 | 29=>164 | 20=>184 | 21=>185 | 22=>186 | 23=>187 | 24=>188 | 25=>189 | 26=>190 | 27=>191 | 46=>202 | 47=>180 | 48=>181 | 49=>203 | 50=>204 | 57=>207 | n=>n,fun | 22=>22 | 24=>24 | 25=>118 | 3=>3 | 39=>130 | 0=>0 | 53=>206 | 55=>42 | 4=>4 | 46=>200 | 45=>199 | 50=>138 | 5=>5 | 9=>9 | 66=>224 | 70=>188 | 76=>240 | 77=>128 | n=>n,fun | n=>n⟩
theorem Tryz.x2:Go.Proofs.SlLaysF0.n6 Tryz.prog Tryz.rB:={
 mixed:=by kernel_rfl
 f6:=⟨Tryz.f126.name,by decide,Tryz.func126.trans (congrArg some (by kernel_rfl))⟩
 f14:=⟨Tryz.f168.name,by decide,Tryz.func168.trans (congrArg some (by kernel_rfl))⟩
 f15:=Tryz.func110.trans (congrArg some (by kernel_rfl))
 f20:=⟨Tryz.f184.name,by decide,Tryz.func184.trans (congrArg some (by kernel_rfl))⟩
 f21:=⟨Tryz.f185.name,by decide,Tryz.func185.trans (congrArg some (by kernel_rfl))⟩
 f22:=⟨Tryz.f186.name,by decide,Tryz.func186.trans (congrArg some (by kernel_rfl))⟩
 f23:=⟨Tryz.f187.name,by decide,Tryz.func187.trans (congrArg some (by kernel_rfl))⟩
 f24:=⟨Tryz.f188.name,by decide,Tryz.func188.trans (congrArg some (by kernel_rfl))⟩
 f25:=⟨Tryz.f189.name,by decide,Tryz.func189.trans (congrArg some (by kernel_rfl))⟩
 f26:=⟨Tryz.f190.name,by decide,Tryz.func190.trans (congrArg some (by kernel_rfl))⟩
 f27:=⟨Tryz.f191.name,by decide,Tryz.func191.trans (congrArg some (by kernel_rfl))⟩
 f28:=Tryz.func163.trans (congrArg some (by kernel_rfl))
 f29:=Tryz.func164.trans (congrArg some (by kernel_rfl))
 f46:=⟨Tryz.f202.name,by decide,Tryz.func202.trans (congrArg some (by kernel_rfl))⟩
 f47:=Tryz.func180.trans (congrArg some (by kernel_rfl))
 f48:=Tryz.func181.trans (congrArg some (by kernel_rfl))
 f49:=⟨Tryz.f203.name,by decide,Tryz.func203.trans (congrArg some (by kernel_rfl))⟩
 f50:=⟨Tryz.f204.name,by decide,Tryz.func204.trans (congrArg some (by kernel_rfl))⟩
 f57:=⟨Tryz.f207.name,by decide,Tryz.func207.trans (congrArg some (by kernel_rfl))⟩
 t0:=Tryz.underlying0
 a0:=Tryz.isAgg0
 z0:=Tryz.sizeOf0
 v0:=Tryz.zeroValue0
 t3:=Tryz.underlying3
 a3:=Tryz.isAgg3
 z3:=Tryz.sizeOf3
 v3:=Tryz.zeroValue3
 t4:=Tryz.underlying4
 a4:=Tryz.isAgg4
 z4:=Tryz.sizeOf4
 v4:=Tryz.zeroValue4
 t5:=Tryz.underlying5
 a5:=Tryz.isAgg5
 z5:=Tryz.sizeOf5
 v5:=Tryz.zeroValue5
 t9:=Tryz.underlying9
 a9:=Tryz.isAgg9
 z9:=Tryz.sizeOf9
 v9:=Tryz.zeroValue9
 t22:=Tryz.underlying22
 a22:=Tryz.isAgg22
 z22:=Tryz.sizeOf22
 v22:=Tryz.zeroValue22
 t25:=Tryz.underlying118
 a25:=Tryz.isAgg118
 z25:=Tryz.sizeOf118
 v25:=Tryz.zeroValue118
 t39:=Tryz.underlying130
 a39:=Tryz.isAgg130
 z39:=Tryz.sizeOf130
 v39:=Tryz.zeroValue130
 t45:=Tryz.underlying199
 a45:=Tryz.isAgg199
 z45:=Tryz.sizeOf199
 v45:=Tryz.zeroValue199
 t46:=Tryz.underlying200
 a46:=Tryz.isAgg200
 z46:=Tryz.sizeOf200
 v46:=Tryz.zeroValue200
 t50:=Tryz.underlying138
 a50:=Tryz.isAgg138
 z50:=Tryz.sizeOf138
 v50:=Tryz.zeroValue138
 t53:=Tryz.underlying206
 a53:=Tryz.isAgg206
 z53:=Tryz.sizeOf206
 v53:=Tryz.zeroValue206
 t55:=Tryz.underlying42
 a55:=Tryz.isAgg42
 z55:=Tryz.sizeOf42
 v55:=Tryz.zeroValue42
 t66:=Tryz.underlying224
 a66:=Tryz.isAgg224
 z66:=Tryz.sizeOf224
 v66:=Tryz.zeroValue224
 t70:=Tryz.underlying188
 a70:=Tryz.isAgg188
 z70:=Tryz.sizeOf188
 v70:=Tryz.zeroValue188
 t76:=Tryz.underlying240
 a76:=Tryz.isAgg240
 z76:=Tryz.sizeOf240
 v76:=Tryz.zeroValue240
 t77:=Tryz.underlying128
 a77:=Tryz.isAgg128
 z77:=Tryz.sizeOf128
 v77:=Tryz.zeroValue128 }
open Go.RowKit Go.Lib Go.Sort in
theorem Tryz.qm {α:Type} [Inhabited α] (k:Nat) (aE:∀ w,(isAgg 98).run Tryz.prog w = .ok true w) (zE:∀ w,(Go.sizeOf 98).run Tryz.prog w = .ok k w) (enc:α→List Value) (hk:∀ x,(enc x).length=k) (h1:∀ x,∀ v∈enc x,v.oneCell'=true) (cf:α→α→Int) (hO:SWO (ltOf cf)) (g:Nat) (cb:Array Value) (qK off cap:Nat) (d:Array α) (w:World) (eg:∀ args w,(callFunc g args).run Tryz.prog w = .ok (.enter g args) w) (we:CmpLays Tryz.prog g cb enc k cf qK off d.size w) (hH:HoldsK enc k w qK off d) (hblk:qK<w.heap.size) (qI:d.size<4611686018427387904) :
 Calls Tryz.prog 57 #[.slice (some ⟨qK,off,none⟩) d.size cap,.func (.func g) #[] cb] w fun e w'=>
  e = .returned (.tuple #[])∧∃ d' n os,PermIn 0 d.size d d'∧SortedIn (ltOf cf) 0 d.size d'∧w'=sortWorldK enc k w qK off n d' os:=AnyQ.slices_SortFunc Tryz.yJ k aE zE enc hk h1 cf hO g cb qK off cap d w eg we hH hblk qI
open Go.RowKit Go.Lib Go.Sort in
theorem Tryz.py {α:Type} [Inhabited α] (k:Nat) (aE:∀ w,(isAgg 24).run Tryz.prog w = .ok true w) (zE:∀ w,(Go.sizeOf 24).run Tryz.prog w = .ok k w) (enc:α→List Value) (hk:∀ x,(enc x).length=k) (h1:∀ x,∀ v∈enc x,v.oneCell'=true) (cf:α→α→Int) (hO:SWO (ltOf cf)) (g:Nat) (cb:Array Value) (qK off cap:Nat) (d:Array α) (w:World) (eg:∀ args w,(callFunc g args).run Tryz.prog w = .ok (.enter g args) w) (we:CmpLays Tryz.prog g cb enc k cf qK off d.size w) (hH:HoldsK enc k w qK off d) (hblk:qK<w.heap.size) (qI:d.size<4611686018427387904) :
 Calls Tryz.prog 126 #[.slice (some ⟨qK,off,none⟩) d.size cap,.func (.func g) #[] cb] w fun e w'=>
  e = .returned (.tuple #[])∧∃ d' n os,PermIn 0 d.size d d'∧SortedIn (ltOf cf) 0 d.size d'∧w'=sortWorldK enc k w qK off n d' os:=AnyQ.slices_SortFunc Tryz.x2 k aE zE enc hk h1 cf hO g cb qK off cap d w eg we hH hblk qI
end Go.Proofs
namespace Go.Proofs.YtbibnpdnmmgacaaGreatDoor
open Go.Sx Go.RowKit
set_option maxHeartbeats 400000 in
theorem Sg (w:World) (ks ls:List Ex) (s t:Value) (ss ts:List Value) (hl:ss.length=ks.length) (DU:ts.length=ls.length) (mW:∀ i,i<ks.length→aB (ss.getD i undef)) (Jp:∀ i,i<ls.length→aB (ts.getD i undef)) (hr:Rd (fun b=>¬ (fun _=>False) b) w s 3 ks.length (dc ks ss)) (tj:Rd (fun b=>¬ (fun _=>False) b) w t 3 ls.length (dc ls ts)) (f:FuncId) (zT:aj Tryz.prog f) (hf:∀ w',bj (fun _=>False) w w'→∀ i,i<ks.length→i<ls.length→aK Tryz.prog f [.agg #[.int .i64 (ks.getD i default).op,.int .i64 (ks.getD i default).lt,ss.getD i undef],.agg #[.int .i64 (ls.getD i default).op,.int .i64 (ls.getD i default).lt,ts.getD i undef]] w' (fun r o=>r = .int .i64 (gD (ks.getD i default) (ls.getD i default))∧o=[])):aK Tryz.prog 132 [s,t,.func (.func f) #[] #[]] w (fun r o=>r = .int .i64 (dA ks ls)∧o=[]):=by
 have hm:=hr.le
 have gG:=tj.le
 refine aC Tryz.func132 rfl (aT rfl) ?_
 refine .sr fun _ bl=>?_
 refine .as rfl (.nt bl ?_)
 refine .seq fun _ bg=>?_
 refine .sr fun _ bW=>?_
 refine .mv rfl ?_
 refine .v (.aZ aR rfl (by exact a8)) ?_
 refine .mv rfl (.nt bW (.block ?_))
 refine .bE (X:=Nat) [(0,_),(1,_),(2,_),(11,_),(12,_)] (fun k=>[(13,.int .i64 (k:Int))]) (fun k=>[]) (fun k=>k≤ks.length∧k≤ls.length∧dA ks ls=dA (ks.drop k) (ls.drop k)) (fun k=>ks.length - k) (0) aU ?_ ?_ ?_ ?_
 ·exact ⟨Nat.zero_le _,Nat.zero_le _,rfl⟩
 ·exact aU
 ·exact fun w hw=>hw
 ·intro k aV _ cr
  refine .sr fun _ cJ=>?_
  refine .v (.lss rfl rfl) (.nt cJ ?_)
  refine .seq fun _ cU=>?_
  refine .aA rfl (fun bx=>?_) (fun bx=>?_)
  ·have sk:=mW k (by omega)
   refine .skip ?_
   refine .ab (cU _ ?_)
   refine .seq fun _ c7=>?_
   refine .block ?_
   refine .sr fun _ dm=>?_
   refine .mv rfl ?_
   refine .v (.iN aR rfl rfl (hr:=(by exact a8))) ?_
   refine .v (.da aM rfl (by exact a8) (by assumption) rfl (by omega)) ?_
   refine .alloc cC rfl rfl trivial rfl (fun lP=>?_)
   refine .as rfl ?_
   refine .ah 0 (us:=[.int .i64 (ks.getD k default).op,.int .i64 (ks.getD k default).lt,ss.getD k undef]) (cs':=[.int .i64 (ks.getD k default).op,.int .i64 (ks.getD k default).lt,ss.getD k undef]) rfl cy rfl rfl rfl rfl aJ (aT rfl) rfl trivial ?_
   refine .nt dm ?_
   refine .seq fun _ dD=>?_
   refine .sr fun _ bJ=>?_
   refine .mv rfl (.mv rfl ?_)
   refine .v (.aZ aR rfl (by exact a8)) ?_
   refine .v (.geq rfl rfl) (.nt bJ ?_)
   refine .aA rfl (fun cB=>?_) (fun cB=>?_)
   ·refine .sr fun _ bP=>?_
    refine .as rfl (.nt bP (.ret (.ae (.al (.ae (.ae (.al (.ae ?_))))))))
    refine .aG rfl rfl (fun w hw=>⟨_,_,?_,rfl,.of (hw.pk [])⟩)
    exact ⟨congrArg (Value.int .i64) (aV.2.2.trans (L9 (by omega) (by omega))).symm,rfl⟩
   ·have Wp:=Jp k (by omega)
    refine .skip ?_
    refine .ab (dD _ ?_)
    refine .sr fun _ ct=>?_
    refine .mv rfl (.mv rfl ?_)
    refine .v (.iN aR rfl rfl (hr:=(by exact a8))) ?_
    refine .v (.da aM rfl (by exact a8) (by assumption) rfl (by omega)) ?_
    refine .alloc cC rfl rfl trivial rfl (fun tn=>?_)
    refine .ah 1 (us:=[.int .i64 (ls.getD k default).op,.int .i64 (ls.getD k default).lt,ts.getD k undef]) (cs':=[.int .i64 (ls.getD k default).op,.int .i64 (ls.getD k default).lt,ts.getD k undef]) rfl cy rfl rfl rfl rfl aJ (aT rfl) rfl trivial ?_
    refine .nt ct ?_
    refine .sr fun _ cK=>?_
    refine .mv rfl (.v (.ak aM rfl ax rfl rfl) (.v (.ak aM rfl ax rfl rfl) ?_))
    refine .oQ (us:=[]) (cs:=[]) zT rfl rfl (fun w hw=>hf w hw.frame k (by omega) (by omega)) trivial rfl ?_
    rintro r o ⟨rfl,rfl⟩
    refine .as rfl (.nt cK ?_)
    refine .sr fun _ cW=>?_
    refine .mv rfl (.v (.neq rfl rfl) (.nt cW ?_))
    refine .df rfl (fun cZ=>?_) (fun cZ=>?_)
    ·refine .sr fun _ c8=>?_
     refine .mv rfl (.as rfl (.nt c8 (.ret (.al (.ae (.ae (.al (.ae ?_))))))))
     refine .aG rfl rfl (fun w hw=>⟨_,_,?_,rfl,.of (hw.pk [])⟩)
     exact ⟨congrArg (Value.int .i64) (aV.2.2.trans (IE (by omega) (by omega) cZ)).symm,rfl⟩
    ·refine .skip (.ag ?_)
     refine .ab (c7 _ ?_)
     refine .region ?_
     refine .v (.add rfl rfl (by omega)) ?_
     refine .mv rfl (.nil ?_)
     refine .ab (cr _ _ (k+1) ⟨by omega,by omega,aV.2.2.trans (Fl (by omega) (by omega) (by omega))⟩ (by omega) (aU) (fun w hw=>hw.pk []))
  ·refine .exit (.ai (.ai (.ar ?_)))
   refine .ab (bg _ ?_)
   refine .seq fun _ dw=>?_
   refine .sr fun _ dE=>?_
   refine .mv rfl ?_
   refine .v (.aZ aR rfl (by exact a8)) ?_
   refine .mv rfl ?_
   refine .v (.aZ aR rfl (by exact a8)) ?_
   refine .v (.lss rfl rfl) (.nt dE ?_)
   refine .aA rfl (fun iz=>?_) (fun iz=>?_)
   ·refine .sr fun _ dR=>?_
    refine .as rfl (.nt dR (.ret (.ae ?_)))
    refine .aG rfl rfl (fun w hw=>⟨_,_,?_,rfl,.of (hw.pk [])⟩)
    exact ⟨congrArg (Value.int .i64) (aV.2.2.trans ((zN (by omega) (by omega)).trans (if_pos (by omega)))).symm,rfl⟩
   ·refine .skip ?_
    refine .ab (dw _ ?_)
    refine .sr fun _ dO=>?_
    refine .as rfl (.nt dO (.ret ?_))
    refine .aG rfl rfl (fun w hw=>⟨_,_,?_,rfl,.of (hw.pk [])⟩)
    exact ⟨congrArg (Value.int .i64) (aV.2.2.trans ((zN (by omega) (by omega)).trans (if_neg (by omega)))).symm,rfl⟩
def RL (a:Ex):Prop:=∀ (b:Ex) (w:World) (s t:Value),dy (bD (fun _=>False) w) s a.kids→dy (bD (fun _=>False) w) t b.kids→aK Tryz.prog 80 [.agg #[.int .i64 a.op,.int .i64 a.lt,s],.agg #[.int .i64 b.op,.int .i64 b.lt,t]] w (fun r o=>r = .int .i64 (gD a b)∧o=[])
set_option maxHeartbeats 400000 in
theorem DB (a:Ex) (ih:∀ i,i<a.kids.length→RL (a.kids.getD i default)) (b:Ex) (w:World) (s t:Value) (h:dy (bD (fun _=>False) w) s a.kids) (h2:dy (bD (fun _=>False) w) t b.kids):aK Tryz.prog 80 [.agg #[.int .i64 a.op,.int .i64 a.lt,s],.agg #[.int .i64 b.op,.int .i64 b.lt,t]] w (fun r o=>r = .int .i64 (gD a b)∧o=[]):=by
 obtain ⟨ss,hl,hx,hk⟩:=h.inv
 have hr:=hx.rd
 obtain ⟨ts,DU,hx2,MP⟩:=h2.inv
 have tj:=hx2.rd
 refine aC Tryz.func80 rfl (aT rfl) ?_
 refine .sr fun _ bl=>?_
 refine .cS (E:=24) (cs:=[.int .i64 a.op,.int .i64 a.lt,s]) rfl rfl rfl trivial rfl (fun eu=>?_)
 refine .cS (E:=24) (cs:=[.int .i64 b.op,.int .i64 b.lt,t]) rfl rfl rfl trivial rfl (fun ga=>?_)
 refine .as rfl (.nt bl ?_)
 refine .seq fun _ bg=>?_
 refine .sr fun _ bW=>?_
 refine .v (.fieldAddr cP rfl) (.v (.aa cQ rfl ax rfl) (.v (.fieldAddr cP rfl) (.v (.aa cQ rfl ax rfl) (.v (.neq rfl rfl) (.nt bW ?_)))))
 refine .df rfl (fun bx=>?_) (fun bx=>?_)
 ·refine .sr fun _ cr=>?_
  refine .v (.fieldAddr cP rfl) (.v (.aa cQ rfl ax rfl) (.v (.fieldAddr cP rfl) (.v (.aa cQ rfl ax rfl) ?_)))
  refine .call Cv rfl (fun w hw=>wE w a.op b.op) trivial rfl ?_
  rintro r o ⟨rfl,rfl⟩
  refine .as rfl (.nt cr (.ret (.ae ?_)))
  refine .aG rfl rfl (fun w hw=>⟨_,_,?_,rfl,.of (hw.pk [])⟩)
  refine ⟨congrArg (Value.int .i64) ?_,rfl⟩
  rw [BC,if_pos bx];exact KB _ _
 ·refine .skip ?_
  refine .ab (bg _ ?_)
  refine .seq fun _ cJ=>?_
  refine .sr fun _ cU=>?_
  refine .v (.fieldAddr gr rfl) (.v (.aa cQ rfl ax rfl) (.v (.fieldAddr gr rfl) (.v (.aa cQ rfl ax rfl) (.v (.neq rfl rfl) (.nt cU ?_)))))
  refine .df rfl (fun cB=>?_) (fun cB=>?_)
  ·refine .sr fun _ c7=>?_
   refine .v (.fieldAddr gr rfl) (.v (.aa cQ rfl ax rfl) (.v (.fieldAddr gr rfl) (.v (.aa cQ rfl ax rfl) ?_)))
   refine .call Cv rfl (fun w hw=>wE w a.lt b.lt) trivial rfl ?_
   rintro r o ⟨rfl,rfl⟩
   refine .as rfl (.nt c7 (.ret (.ae ?_)))
   refine .aG rfl rfl (fun w hw=>⟨_,_,?_,rfl,.of (hw.pk [])⟩)
   refine ⟨congrArg (Value.int .i64) ?_,rfl⟩
   rw [BC,if_neg (not_not_intro bx),if_pos cB];exact KB _ _
  ·refine .skip ?_
   refine .ab (cJ _ ?_)
   refine .sr fun _ dm=>?_
   refine .v (.fieldAddr bM rfl) (.v (.aa du rfl ax rfl) (.v (.fieldAddr bM rfl) (.v (.aa du rfl ax rfl) ?_)))
   refine .call V6 rfl (fun w hw=>Sg w a.kids b.kids s t ss ts hl DU (fun i hi=>(hk i hi).sl) (fun i hi=>(MP i hi).sl) (hr.mono fun b _ bZ=>⟨id,hw.frame.block b bZ id⟩) (tj.mono fun b _ bZ=>⟨id,hw.frame.block b bZ id⟩) 80 JF (fun w' bI i hi yQ=>ih i hi _ w' _ _ (((hk i hi).at hw).fr bI) (((MP i yQ).at hw).fr bI))) trivial rfl ?_
   rintro r o ⟨rfl,rfl⟩
   refine .as rfl (.nt dm (.ret ?_))
   refine .aG rfl rfl (fun w hw=>⟨_,_,?_,rfl,.of (hw.pk [])⟩)
   refine ⟨congrArg (Value.int .i64) ?_,rfl⟩
   rw [BC,if_neg (not_not_intro bx),if_neg (not_not_intro cB)]
theorem Ak (a:Ex):RL a:=Ex.ind (P:=RL) (fun a ih b w s t h h2=>DB a ih b w s t h h2) a
theorem U9 (w:World) (a b:Ex) (s t:Value) (h:dy (bD (fun _=>False) w) s a.kids) (h2:dy (bD (fun _=>False) w) t b.kids):aK Tryz.prog 205 [.agg #[.int .i64 a.op,.int .i64 a.lt,s],.agg #[.int .i64 b.op,.int .i64 b.lt,t]] w (fun r o=>r = .bool (qe a b)∧o=[]):=by
 have hs:=h.sl
 have ht:=h2.sl
 refine aC Tryz.func205 rfl (aT rfl) ?_
 refine .sr fun _ bl=>?_
 refine .cS (E:=24) (cs:=[.int .i64 a.op,.int .i64 a.lt,s]) rfl rfl rfl trivial rfl (fun eu=>?_)
 refine .cS (E:=24) (cs:=[.int .i64 b.op,.int .i64 b.lt,t]) rfl rfl rfl trivial rfl (fun ga=>?_)
 refine .as rfl (.nt bl ?_)
 refine .sr fun _ bg=>?_
 refine .v (.ak aM rfl ax rfl rfl) (.v (.ak aM rfl ax rfl rfl) ?_)
 refine .call JF rfl (fun w hw=>Ak a b w s t (h.at hw) (h2.at hw)) trivial rfl ?_
 rintro r o ⟨rfl,rfl⟩
 refine .v (.eql rfl rfl) (.as rfl (.nt bg (.ret ?_)))
 refine .aG rfl rfl (fun w hw=>⟨_,_,?_,rfl,.of (hw.pk [])⟩)
 exact ⟨rfl,rfl⟩
theorem H5 (w:World) (s f:Value) (a b:Int) (ha:0≤a∧a≤4611686018427387904) (hb:b≤a+1):aK Tryz.prog 184 [s,.int .i64 a,.int .i64 b,f] w (fun r o=>o=[]):=by
 refine aC Tryz.func184 rfl (aT rfl) ?_
 refine .sr fun _ bl=>?_
 refine .mv rfl ?_
 refine .v (.add rfl rfl (by omega)) ?_
 refine .as rfl (.nt bl (.block ?_))
 refine .bE (X:=Unit) [(0,_),(1,_),(2,_),(3,_)] (fun x=>[(8,.int .i64 (a+1))]) (fun x=>[]) (fun x=>True) (fun x=>0) (()) aU ?_ ?_ ?_ ?_
 ·trivial
 ·exact aU
 ·exact fun w hw=>hw
 ·intro x aV _ bg
  refine .seq fun _ bW=>?_
  refine .sr fun _ cr=>?_
  refine .mv rfl (.mv rfl (.v (.lss rfl rfl) (.nt cr ?_)))
  refine .dH rfl (decide_eq_false (by omega)) ?_
  refine .exit (.ai (.ai (.ar ?_)))
  refine .jz [] rfl (.nil) (fun w hw=>⟨_,_,?_,rfl,.of (hw.pk [])⟩)
  rfl
theorem R8 (w:World) (s f:Value) (n lm:Int) (hb:0≤n∧n≤1):aK Tryz.prog 168 [s,.int .i64 0,.int .i64 n,.int .i64 lm,f] w (fun r o=>o=[]):=by
 refine aC Tryz.func168 rfl (aT rfl) ?_
 refine .sr fun _ bl=>?_
 refine .as rfl (.nt bl ?_)
 refine .sr fun _ bg=>?_
 refine .as rfl (.nt bg (.block ?_))
 refine .bE (X:=Unit) [(0,_),(4,_)] (fun x=>[(1,.int .i64 0),(2,.int .i64 n),(3,.int .i64 lm),(10,.bool true),(11,.bool true)]) (fun x=>[]) (fun x=>True) (fun x=>0) (()) aU ?_ ?_ ?_ ?_
 ·trivial
 ·exact aU
 ·exact fun w hw=>hw
 ·intro x aV _ bW
  refine .block ?_
  refine .sr fun _ cr=>?_
  refine .mv rfl (.mv rfl ?_)
  refine .v (.sub rfl rfl (by omega)) ?_
  refine .as rfl (.nt cr ?_)
  refine .seq fun _ cJ=>?_
  refine .sr fun _ cU=>?_
  refine .mv rfl (.v (.leq rfl rfl) (.nt cU ?_))
  refine .cD rfl (decide_eq_true (by omega)) ?_
  refine .sr fun _ c7=>?_
  refine .mv rfl (.mv rfl (.mv rfl (.mv rfl ?_)))
  refine .call VS rfl (fun w hw=>H5 w s f 0 n (by omega) (by omega)) trivial rfl ?_
  rintro r o rfl
  refine .nt c7 (.ret (.ae (.al (.ae (.al ?_)))))
  refine .cO [] rfl (.nil) (fun w hw=>⟨_,_,?_,rfl,.of (hw.pk [])⟩)
  rfl
theorem NM (w:World) (s f:Value) (n:Nat) (cs:List Value) (hn:n≤1) (hr:Rd (fun b=>¬ (fun _=>False) b) w s 3 n cs):aK Tryz.prog 126 [s,f] w (fun r o=>o=[]):=by
 refine aC Tryz.func126 rfl (aT rfl) ?_
 refine .sr fun _ bl=>?_
 refine .mv rfl (.v (.aZ aR rfl a8) (.as rfl (.nt bl ?_)))
 refine .region ?_
 refine .mv rfl (.mv rfl (.mv rfl ?_))
 refine .v (.wy (by kernel_rfl) Pp rfl (wrap_u64 (by omega))) ?_
 refine .call P6 rfl (fun w hw=>vh (Tryz.bits_Len _ w (by omega) (by omega)) (φ:=fun r o=>r = .int .i64 (Lib.bitLen ((n:Int)).toNat)∧o=[]) ⟨rfl,rfl⟩) trivial rfl ?_
 rintro r o ⟨rfl,rfl⟩
 refine .mv rfl ?_
 refine .call VZ rfl (fun w hw=>R8 w s f n _ (by omega)) trivial rfl ?_
 rintro r o rfl
 refine .nil ?_
 refine .jz [] rfl (.nil) (fun w hw=>⟨_,_,?_,rfl,.of (hw.pk [])⟩)
 rfl
theorem zI {P:Program} {g:FuncId} (h:aj P g) (args:Array Value) (w:World):(callFunc g args).run P w = .ok (.enter g args) w:=by
 obtain ⟨fn,h1,h2,h3⟩:=h.fn
 have T4:¬ fn.name = "runtime.NumGoroutine":=by simpa using h2
 have FC:¬ fn.body=none:=by intro e;simp [e] at h3
 simp [callFunc,h1,T4,FC]
theorem Nx:CB Tryz.prog 126 80 [] 3:=fun enc hk h1 cf hO qK off cap d w we hH hb hs=>
 Tryz.py 3 (fun w=>iy aM w) (fun w=>cI aM.2 w) enc hk h1 cf hO 80 #[] qK off cap d w (zI JF) we hH hb hs
theorem Gl (w:World) (F:Nat→Prop) (s:Value) (ks:List Ex) (ss:List Value) (hl:ss.length=ks.length) (hn:ks.length≤1073741824) (hA:(row s 24 3 ks.length (dc ks ss)).holds w F) (hk:∀ i,i<ks.length→dy (bD F w) (ss.getD i undef) (ks.getD i default).kids) :
  ck Tryz.prog 126 [s,.func (.func 80) #[] #[]] w F (fun r A o=>∃ jw,A=row s 24 3 ks.length (dc (gw ks) jw)∧o=[]∧kS (gw ks) jw ks ss):=by
 by_cases h0:ks.length=0
 ·have h:=(NM w s (.func (.func 80) #[] #[]) ks.length (dc ks ss) (by omega) ((oT hA).mono fun b _ _=>⟨id,rfl⟩)).toM hA
  refine Calls.mono h ?_
  rintro e w' ⟨v,A,own',⟨rfl,rfl⟩,h2,h3⟩
  refine ⟨v,_,[],⟨ss,by rw [uZ h0],rfl,by rw [uZ h0];exact kS.rfl hl⟩,h2,h3⟩
 ·have h:=EP Nx (fun a b w s t=>Ak a b w s t) w F s ks ss hl (by omega) hA hk
  refine Calls.mono h ?_
  rintro e w' ⟨v,A,own',⟨jw,_,h4,h5,h6⟩,h2,h3⟩
  exact ⟨v,A,own',⟨jw,h4,h5,h6⟩,h2,h3⟩
set_option maxHeartbeats 2000000 in
theorem za (w:World) (F:Nat→Prop) (f:FuncId) (zT:aj Tryz.prog f) (s:Value) (ks:List Ex) (ss:List Value) (hl:ss.length=ks.length) (mW:∀ i,i<ks.length→aB (ss.getD i undef)) (hA:(row s 24 3 ks.length (dc ks ss)).holds w F) (hf:∀ w',bj F w w'→∀ i j,i<ks.length→j<ks.length→aK Tryz.prog f [.agg #[.int .i64 (ks.getD i default).op,.int .i64 (ks.getD i default).lt,ss.getD i undef],.agg #[.int .i64 (ks.getD j default).op,.int .i64 (ks.getD j default).lt,ss.getD j undef]] w' (fun r o=>r = .bool (qe (ks.getD i default) (ks.getD j default))∧o=[])):ck Tryz.prog 127 [s,.func (.func f) #[] #[]] w F (fun r A o=>∃ jw,aB r∧A=row r 24 3 (hD ks).length (dc (hD ks) jw)∧o=[]∧kS (hD ks) jw ks ss):=by
 have MH:=tI hA
 have hm:=(oT hA).le
 refine cu Tryz.func127 rfl (aT rfl) hA ?_
 refine .sr fun _ bl=>?_
 refine .as rfl (.nt bl ?_)
 refine .seq fun _ bg=>?_
 refine .sr fun _ bW=>?_
 refine .mv rfl (.v (.aZ aR rfl a8) (.v (.lss rfl rfl) (.nt bW ?_)))
 refine .aA rfl (fun bx=>?_) (fun bx=>?_)
 ·refine .sr fun _ cr=>?_
  refine .mv rfl (.as rfl (.nt cr (.ret (.ae ?_))))
  refine .aG rfl rfl (fun w hw=>⟨_,_,_,?_,rfl,.of (hw.pk [0])⟩)
  rw [DH (by omega)]
  exact ⟨ss,MH,rfl,rfl,kS.rfl hl⟩
 ·refine .skip ?_
  refine .ab (bg _ ?_)
  refine .seq fun _ cJ=>?_
  refine .sr fun _ cU=>?_
  refine .as rfl (.nt cU (.block ?_))
  refine .bE (X:=Nat) [(0,_),(1,_)] (fun k=>[(5,.int .i64 (k:Int))]) (fun k=>[row s 24 3 ks.length (dc ks ss)]) (fun k=>1≤k∧k≤ks.length∧∀ i,0<i→i<k→qe (ks.getD i default) (ks.getD (i - 1) default)=false) (fun k=>ks.length - k) (1) aU ?_ ?_ ?_ ?_
  ·exact ⟨Nat.le_refl _,by omega,fun i h1 h2=>by omega⟩
  ·exact aU
  ·exact fun w hw=>hw
  ·intro k aV _ c7
   refine .seq fun _ dm=>?_
   refine .sr fun _ dD=>?_
   refine .mv rfl (.mv rfl (.v (.aZ aR rfl a8) (.v (.lss rfl rfl) (.nt dD ?_))))
   refine .aA rfl (fun cB=>?_) (fun cB=>?_)
   ·have eo:k<ks.length:=by omega
    refine .skip ?_
    refine .ab (dm _ ?_)
    refine .seq fun _ bJ=>?_
    refine .block ?_
    refine .seq fun _ bP=>?_
    refine .oM (X:=Unit) [(0,_),(1,_),(5,_)] (fun z=>[(28,.bool (qe (ks.getD k default) (ks.getD (k - 1) default)))]) (fun z=>[row s 24 3 ks.length (dc ks ss)]) (fun z=>True) aU (fun _ hJ=>?_) (fun z hg=>?_)
    ·try (conv=>enter [2,2];simp only [cE])
     refine .held 11 mixed ?_
     refine .F 0 10 11 1 rfl (.move rfl) trivial ?_
     refine .F 1 9 11 3 rfl (.move rfl) trivial ?_
     refine .F 2 8 11 7 rfl (.move rfl) trivial ?_
     refine .F 3 7 11 15 rfl (.iN aR rfl rfl) trivial ?_
     refine .F 4 6 11 31 rfl (.da aM rfl a8 (by assumption) rfl (by omega)) trivial ?_
     refine .F 5 5 11 63 rfl (.move rfl) trivial ?_
     refine .F 6 4 11 127 rfl (.move rfl) trivial ?_
     refine .F 7 3 11 255 rfl (.M3 (((k - 1:Nat):Int)) rfl rfl (by omega) (by omega)) trivial ?_
     refine .F 8 2 11 511 rfl (.iN aR rfl rfl) trivial ?_
     refine .F 9 1 11 1023 rfl (.da aM rfl a8 (by assumption) rfl (by omega)) trivial ?_
     refine .O 10 0 11 2047 rfl ?_
     refine .oQ (us:=[]) (cs:=[]) zT rfl rfl (fun w hw=>hf w hw.frame k (k - 1) (by omega) (by omega)) trivial rfl ?_
     rintro r o ⟨rfl,rfl⟩
     refine .nil ?_
     try (conv=>enter [2,2];simp only [cE])
     refine ay.back Go.Sx.hle ?_
     refine .done cx ?_
     exact hJ _ _ (()) trivial (aU) (fun w hw=>by first | exact hw.dG [0] (by decide) qn)
    ·skip
     refine .ab (bP _ ?_)
     refine .cond rfl (fun cZ=>?_) (fun cZ=>?_)
     ·try simp only [bs] at cZ
      refine .sr fun _ ct=>?_
      refine .mv rfl (.mv rfl ?_)
      refine .v (.rX (mn.row 0 rfl) aR rfl rfl (by omega)) ?_
      refine .as rfl (.nt ct ?_)
      refine .seq fun _ cK=>?_
      refine .sr fun _ cW=>?_
      refine .as rfl (.nt cW (.block ?_))
      refine .bE (X:=Nat × Nat × List Ex × List Value) [(0,_),(1,_),(6,_)] (fun x=>[(5,.int .i64 (x.2.1:Int)),(7,.int .i64 ((x.1 - k:Nat):Int))]) (fun x=>[row s 24 3 ks.length (dc x.2.2.1 x.2.2.2)]) (fun x=>FE ks ss x.1 x.2.1 x.2.2.1 x.2.2.2∧k<x.1) (fun x=>ks.length - x.1) ((k+1,k,ks,ss)) aU ?_ ?_ ?_ ?_
      ·exact ⟨FE.start hl (by omega) (by omega) aV.2.2 cZ,by dsimp only;omega⟩
      ·exact .cons (rfl) (.cons (s9 rfl (by dsimp only;omega)) (aU))
      ·exact fun w hw=>hw
      ·intro x c6 _ c8
       have Tr:=c6.1.len
       have DU:=c6.1.mh
       have bZ:=c6.1.lt
       have hle:=c6.1.le
       refine .seq fun _ dw=>?_
       refine .sr fun _ dE=>?_
       refine .mv rfl (.mv rfl ?_)
       refine .v (.aZ aR rfl (cR.Qm (a:=k) (cR.own 0 rfl) (mn.row 0 rfl) (by rw [c6.1.mh]) (by omega))) ?_
       refine .v (.lss rfl rfl) (.nt dE ?_)
       refine .aA rfl (fun iz=>?_) (fun iz=>?_)
       ·refine .skip ?_
        refine .ab (dw _ ?_)
        refine .seq fun _ dR=>?_
        refine .block ?_
        refine .seq fun _ dO=>?_
        refine .oM (X:=Unit) [(0,_),(1,_),(5,_),(6,_),(7,_)] (fun z=>[(49,.bool (!qe (ks.getD x.1 default) (ks.getD (x.1 - 1) default)))]) (fun z=>[row s 24 3 ks.length (dc x.2.2.1 x.2.2.2)]) (fun z=>True) aU (fun _ hJ=>?_) (fun z hg=>?_)
        ·try (conv=>enter [2,2];simp only [cE])
         refine .held 12 mixed ?_
         refine .F 0 11 12 1 rfl (.move rfl) trivial ?_
         refine .F 1 10 12 3 rfl (.move rfl) trivial ?_
         refine .F 2 9 12 7 rfl (.move rfl) trivial ?_
         refine .F 3 8 12 15 rfl (.iN aR rfl rfl (hr:=(cR.Qm (a:=k) (cR.own 0 rfl) (mn.row 0 rfl) (by rw [c6.1.mh]) (by omega)))) trivial ?_
         refine .F 4 7 12 31 rfl (.iW (v':=.agg #[.int .i64 (ks.getD x.1 default).op,.int .i64 (ks.getD x.1 default).lt,ss.getD x.1 undef]) (.da aM rfl (cR.Qm (a:=k) (cR.own 0 rfl) (mn.row 0 rfl) (by rw [c6.1.mh]) (by omega)) (by simp [DU,Tr]) (by simp [Tr]) (by omega)) (by rw [(c6.1.rd (by omega) (by omega)).1,(c6.1.rd (by omega) (by omega)).2])) trivial ?_
         refine .F 5 6 12 63 rfl (.move rfl) trivial ?_
         refine .F 6 5 12 127 rfl (.move rfl) trivial ?_
         refine .F 7 4 12 255 rfl (.M3 (((x.1 - 1 - k:Nat):Int)) rfl rfl (by omega) (by omega)) trivial ?_
         refine .F 8 3 12 511 rfl (.iN aR rfl rfl (hr:=(cR.Qm (a:=k) (cR.own 0 rfl) (mn.row 0 rfl) (by rw [c6.1.mh]) (by omega)))) trivial ?_
         refine .F 9 2 12 1023 rfl (.iW (v':=.agg #[.int .i64 (ks.getD (x.1 - 1) default).op,.int .i64 (ks.getD (x.1 - 1) default).lt,ss.getD (x.1 - 1) undef]) (.da aM rfl (cR.Qm (a:=k) (cR.own 0 rfl) (mn.row 0 rfl) (by rw [c6.1.mh]) (by omega)) (by simp [DU,Tr]) (by simp [Tr]) (by omega)) (by rw [(c6.1.rd (by omega) (by omega)).1,(c6.1.rd (by omega) (by omega)).2])) trivial ?_
         refine .O 10 1 12 2047 rfl ?_
         refine .oQ (us:=[]) (cs:=[]) zT rfl rfl (fun w hw=>hf w hw.frame x.1 (x.1 - 1) (by omega) (by omega)) trivial rfl ?_
         rintro r o ⟨rfl,rfl⟩
         refine .nil ?_
         try (conv=>enter [2,2];simp only [cE])
         refine ay.back Go.Sx.hle ?_
         refine .F 11 0 12 4095 rfl (.not rfl) trivial ?_
         refine .done cx ?_
         exact hJ _ _ (()) trivial (aU) (fun w hw=>by first | exact hw.dG [0] (by decide) qn)
        ·skip
         refine .ab (dO _ ?_)
         refine .eW rfl (fun gn=>?_) (fun gn=>?_)
         ·refine .sr fun _ eJ=>?_
          refine .mv rfl (.mv rfl (.mv rfl (.mv rfl ?_)))
          refine .v (.iN aR rfl rfl (hr:=(cR.Qm (a:=k) (cR.own 0 rfl) (mn.row 0 rfl) (by rw [c6.1.mh]) (by omega)))) ?_
          refine .v (.iW (v':=.agg #[.int .i64 (ks.getD x.1 default).op,.int .i64 (ks.getD x.1 default).lt,ss.getD x.1 undef]) (.da aM rfl (cR.Qm (a:=k) (cR.own 0 rfl) (mn.row 0 rfl) (by rw [c6.1.mh]) (by omega)) (by simp [DU,Tr]) (by simp [Tr]) (by omega)) (by rw [(c6.1.rd (by omega) (by omega)).1,(c6.1.rd (by omega) (by omega)).2])) ?_
          refine .v (.iN aR rfl rfl) ?_
          refine .fV 0 rfl cy rfl rfl rfl rfl (aw rfl (aw rfl (aw (aB.one (mW x.1 (by omega))) bY))) (by omega) (cs':=dc (x.2.2.1.set x.2.1 (ks.getD x.1 default)) (x.2.2.2.set x.2.1 (ss.getD x.1 undef))) (AD _ _ _ DU (by omega) _ _) trivial ?_
          refine .nt eJ ?_
          refine .region ?_
          refine .mv rfl ?_
          refine .v (.add rfl rfl (by omega)) ?_
          refine .as rfl (.nil (.ag ?_))
          refine .ab (dR _ ?_)
          refine .region ?_
          refine .mv rfl ?_
          refine .v (.add rfl rfl (by omega)) ?_
          refine .as rfl (.nil ?_)
          refine .ab (c8 _ _ ((x.1+1,x.2.1+1,x.2.2.1.set x.2.1 (ks.getD x.1 default),x.2.2.2.set x.2.1 (ss.getD x.1 undef))) ⟨c6.1.Ce (by omega) gn,by dsimp only;omega⟩ (by dsimp only;omega) (.cons (rfl) (.cons (s9 rfl (by dsimp only;omega)) (aU))) (fun w hw=>hw.pk [0]))
         ·refine .skip (.ag ?_)
          refine .ab (dR _ ?_)
          refine .region ?_
          refine .mv rfl ?_
          refine .v (.add rfl rfl (by omega)) ?_
          refine .as rfl (.nil ?_)
          refine .ab (c8 _ _ ((x.1+1,x.2.1,x.2.2.1,x.2.2.2)) ⟨c6.1.drop (by omega) gn,by dsimp only;omega⟩ (by dsimp only;omega) (.cons (rfl) (.cons (s9 rfl (by dsimp only;omega)) (aU))) (fun w hw=>hw.pk [0]))
       ·refine .exit (.ai (.ai (.ar ?_)))
        refine .ab (cK _ ?_)
        refine .sr fun _ eY=>?_
        refine .mv rfl (.mv rfl ?_)
        refine .v (.rX (mn.row 0 rfl) aR rfl rfl (by omega)) ?_
        refine .KD 0 (ks:=x.2.2.1) (ss:=x.2.2.2) rfl aR cC rfl (by omega) DU (by omega) trivial (fun cs oB=>?_)
        refine .nt eY ?_
        refine .sr fun _ eI=>?_
        refine .mv rfl (.mv rfl ?_)
        refine .v (.sliceTo 0 rfl aR rfl rfl (by omega)) ?_
        refine .as rfl (.nt eI (.ret (.al (.ae (.ae (.al (.ae ?_)))))))
        refine .Gx 0 x.2.1 rfl (by omega) ?_
        refine .aG rfl rfl (fun w hw=>⟨_,_,_,?_,rfl,.of (hw.pk [0])⟩)
        have Xv:x.1=ks.length:=by omega
        have I6:=c6.1
        rw [Xv] at I6
        obtain ⟨ps,e1,e2⟩:=I6.QZ
        have HB:cs.take (x.2.1 * 3)=dc (x.2.2.1.take x.2.1) (x.2.2.2.take x.2.1):=oB
        rw [e1] at HB
        refine ⟨x.2.2.2.take x.2.1,Gj _ MH,?_,rfl,ps⟩
        rw [HB,← e2]
        rfl
     ·try simp only [bs] at cZ
      refine .skip (.ag ?_)
      refine .ab (bJ _ ?_)
      refine .region ?_
      refine .mv rfl ?_
      refine .v (.add rfl rfl (by omega)) ?_
      refine .as rfl (.nil ?_)
      refine .ab (c7 _ _ (k+1) ⟨by omega,by omega,fun i h1 h2=>by rcases Nat.lt_or_ge i k with h3 | h3;exact aV.2.2 i h1 h3;obtain rfl:i=k:=(by omega);exact cZ⟩ (by omega) (aU) (fun w hw=>hw.pk [0]))
   ·refine .exit (.ai (.ai (.ar ?_)))
    refine .ab (cJ _ ?_)
    refine .sr fun _ fH=>?_
    refine .mv rfl (.as rfl (.nt fH (.ret ?_)))
    refine .aG rfl rfl (fun w hw=>⟨_,_,_,?_,rfl,.of (hw.pk [0])⟩)
    have Ho:k=ks.length:=by omega
    rw [Ho] at aV
    rw [xV aV.2.2]
    exact ⟨ss,MH,rfl,rfl,kS.rfl hl⟩
theorem y9 (w:World) (F:Nat→Prop) (s:Value) (ks:List Ex) (ss:List Value) (hl:ss.length=ks.length) (hn:ks.length≤1073741824) (gu:List Ex) (ho:Jj ks=some gu) (hA:(row s 24 3 ks.length (dc ks ss)).holds w F) (hk:∀ i,i<ks.length→dy (bD F w) (ss.getD i undef) (ks.getD i default).kids):ck Tryz.prog 195 [s] w F (fun r A o=>∃ jw,aB r∧A=row r 24 3 gu.length (dc gu jw)∧o=[]∧kS gu jw ks ss):=by
 have MH:=tI hA
 have hso:hD (gw ks)=gu:=Option.some.inj ho
 subst hso
 refine cu Tryz.func195 rfl (aT rfl) hA ?_
 refine .sr fun _ bl=>?_
 refine .as rfl (.nt bl ?_)
 refine .sr fun _ bg=>?_
 refine .mv rfl ?_
 refine .aY 0 rfl PZ rfl (fun w Fs hw hh bI bc=>Gl w (Fs 0) s ks ss hl hn (hh.at_ 0 _ rfl) (fun i hi=>(hk i hi).yi bI bc 0)) trivial rfl ?_
 rintro r A o ⟨Xb,rfl,rfl,IY⟩
 refine .nt bg ?_
 refine .sr fun _ bW=>?_
 refine .mv rfl ?_
 refine .aY 0 rfl PX rfl (fun w Fs hw hh bI bc=>za w (Fs 0) 205 VP s (gw ks) Xb IY.len (IY.qd fun i hi=>(hk i hi).sl) (by rw [pO];exact hh.at_ 0 _ rfl) (fun w' yx i j hi hj=>by obtain ⟨a,a1,a2,a3⟩:=IY.at_ i hi;obtain ⟨b,b1,b2,b3⟩:=IY.at_ j hj;rw [a2,a3,b2,b3];exact U9 w' _ _ _ _ (((hk a a1).yi bI bc 0).fr yx).wk (((hk b b1).yi bI bc 0).fr yx).wk)) trivial rfl ?_
 rintro r A o ⟨Mo,ku,rfl,rfl,Qu⟩
 refine .as rfl (.nt bW (.ret ?_))
 refine .aG rfl rfl (fun w hw=>⟨_,_,_,?_,rfl,.of (hw.pk [0])⟩)
 exact ⟨Mo,ku,rfl,rfl,Qu.trans IY⟩
end Go.Proofs.YtbibnpdnmmgacaaGreatDoor
namespace Go.Proofs.YtbibnpdnmmgacaaGreatDoor
open Go.Sx Go.RowKit
set_option maxHeartbeats 800000 in
theorem NS (w:World) (F:Nat→Prop) (B:Bs) (l:List cw) (hB:gI B w F) (hA:(aI B l).holds w F) (s:Value) (ks:List Ex) (hm:cw.deep s ks∈l) (j:Ex) (hj:oN ks=some j):ck Tryz.prog 173 [s] w F (fun r A o=>∃ sr l',r = .agg #[.int .i64 j.op,.int .i64 j.lt,sr]∧aB sr∧A=aI B l'∧(∀ x∈l,x∈l')∧cw.deep sr j.kids∈l'∧o=[]):=by
 refine cu Tryz.func173 rfl (aT rfl) hA ?_
 refine .FQ 0 rfl hm fun l1 ss lH h2=>?_
 refine .sr fun _ bl=>?_
 refine .alloc cC rfl rfl trivial rfl (fun eu=>?_)
 refine .nt bl ?_
 refine .seq fun _ bg=>?_
 refine .sr fun _ bW=>?_
 refine .mv rfl ?_
 refine .call Cw rfl (fun w hw=>lx w 171 F3 bb s ks ss h2.o.len h2.o.qd ((cR.tree hB 0 rfl h2.o.rw w hw).mono fun b _ _=>⟨id,rfl⟩) (fun w' bI i hi=>pR w' _ _)) trivial rfl ?_
 rintro r o ⟨rfl,rfl⟩
 refine .nt bW ?_
 refine .cond rfl (fun bx=>?_) (fun bx=>?_)
 ·try simp only [bs] at bx
  unfold oN at hj
  rw [bx] at hj
  simp only [if_true] at hj
  cases hj
  refine .sr fun _ cr=>?_
  refine .call F0 rfl (fun w hw=>vH w) trivial rfl ?_
  rintro r o ⟨rfl,rfl⟩
  refine .ah 1 (us:=[.int .i64 aP.op,.int .i64 aP.lt,aW]) (cs':=[.int .i64 aP.op,.int .i64 aP.lt,aW]) rfl cy rfl rfl rfl rfl aJ (aT rfl) rfl trivial ?_
  refine .nt cr (.ret (.ae ?_))
  refine .np 0 (.deep aW []) rfl (fun R=>dy.nil R) (fun l2 dX gG=>?_)
  refine .cO [.cell 2 24] rfl (.cons (.cell aM rfl ax rfl rfl) (.nil)) (fun w hw=>⟨_,_,_,?_,rfl,.of (hw.pk [0])⟩)
  exact ⟨aW,l2,rfl,cq,rfl,fun x hx=>dX _ (h2.o.sub x hx),gG,rfl⟩
 ·try simp only [bs] at bx
  unfold oN at hj
  rw [bx] at hj
  simp only [Bool.false_eq_true,if_false] at hj
  obtain ⟨p,hp,hj⟩:=bind_some hj
  obtain ⟨rfl,z8⟩:=js hp
  cases hj
  refine .skip ?_
  refine .ab (bg _ ?_)
  refine .sr fun _ cJ=>?_
  refine .mv rfl ?_
  refine .call J1 rfl (fun w hw=>tV w 5 s ks ss lH h2.o.len h2.tl (fun i hi=>(h2.each i hi).len) ((cR.tree hB 0 rfl h2.o.rw w hw).mono fun b _ _=>⟨id,rfl⟩) (fun i hi=>((cR.tree hB 0 rfl (h2.each i hi).rw w hw).mono fun b _ _=>⟨id,rfl⟩)) h2.o.qd (fun i hi j hj=>(h2.each i hi).qd j hj) z8) trivial rfl ?_
  rintro pv o ⟨Xc,rfl⟩
  refine .aY 2 rfl F5 rfl (fun w Fs hw hh bI bc=>sC w (Fs 2) 197 VR eA pv (bG 5 ks) (gY 5 ks ss lH) (h2.flat 5).1 (fun i hi=>((h2.flat 5).2 i hi).2) (hh.at_ 2 _ rfl) (fun w' yx i hi=>Le w' _ _)) trivial rfl ?_
  rintro v2 A o ⟨Mo,ku,rfl,rfl,ps⟩
  refine .as rfl (.nt cJ ?_)
  refine .sr fun _ cU=>?_
  refine .mv rfl ?_
  refine .call J2 rfl (fun w hw=>Em w) trivial rfl ?_
  rintro r o ⟨rfl,rfl⟩
  refine .call J0 rfl (fun w hw=>tW w 5 v2 _ Mo ps.len ((cR.own 2 rfl w hw).mono fun b _ _=>⟨id,rfl⟩) bu aW (ps.qd fun i hi=>((h2.flat 5).2 i hi).2) cq) trivial rfl ?_
  rintro r o ⟨sr,rfl,qc,rfl,Cs⟩
  refine .ah 1 (us:=[.int .i64 (bp 5 ((bG 5 ks).filter fun e=>!eA e) bu).op,.int .i64 (bp 5 ((bG 5 ks).filter fun e=>!eA e) bu).lt,sr]) (cs':=[.int .i64 (bp 5 ((bG 5 ks).filter fun e=>!eA e) bu).op,.int .i64 (bp 5 ((bG 5 ks).filter fun e=>!eA e) bu).lt,sr]) rfl cy rfl rfl rfl rfl aJ (aT rfl) rfl trivial ?_
  refine .nt cU (.ret ?_)
  refine .close' 0 2 _ Mo (by decide) rfl rfl rfl rfl ps.len (ps.deep fun k hk=>((h2.flat 5).2 k hk).1) (fun l2 dX gG tj=>?_)
  refine .np 0 (.deep aW []) rfl (fun R=>dy.nil R) (fun l3 pz DT=>?_)
  refine .cO [.cell 2 24] rfl (.cons (.cell aM rfl ax rfl rfl) (.nil)) (fun w hw=>⟨_,_,_,?_,rfl,.of (hw.pk [0])⟩)
  exact ⟨sr,l3,rfl,qc,rfl,fun x hx=>pz _ (dX _ (h2.o.sub x hx)),nS (fun k hk=>pz _ (dX _ (ps.deep (fun k hk=>((h2.flat 5).2 k hk).1) k hk))) (pz _ gG) DT Cs,rfl⟩
set_option maxHeartbeats 800000 in
theorem NR (w:World) (F:Nat→Prop) (B:Bs) (l:List cw) (hB:gI B w F) (hA:(aI B l).holds w F) (s:Value) (ks:List Ex) (hm:cw.deep s ks∈l) (j:Ex) (hj:qu ks=some j):ck Tryz.prog 172 [s] w F (fun r A o=>∃ sr l',r = .agg #[.int .i64 j.op,.int .i64 j.lt,sr]∧aB sr∧A=aI B l'∧(∀ x∈l,x∈l')∧cw.deep sr j.kids∈l'∧o=[]):=by
 refine cu Tryz.func172 rfl (aT rfl) hA ?_
 refine .FQ 0 rfl hm fun l1 ss lH h2=>?_
 refine .sr fun _ bl=>?_
 refine .alloc cC rfl rfl trivial rfl (fun eu=>?_)
 refine .nt bl ?_
 refine .seq fun _ bg=>?_
 refine .sr fun _ bW=>?_
 refine .mv rfl ?_
 refine .call Cw rfl (fun w hw=>lx w 142 J4 fE s ks ss h2.o.len h2.o.qd ((cR.tree hB 0 rfl h2.o.rw w hw).mono fun b _ _=>⟨id,rfl⟩) (fun w' bI i hi=>wW w' _ _ ((hw.qh hB 0 rfl (h2.o.th i hi)).fr bI))) trivial rfl ?_
 rintro r o ⟨rfl,rfl⟩
 refine .nt bW ?_
 refine .cond rfl (fun bx=>?_) (fun bx=>?_)
 ·try simp only [bs] at bx
  unfold qu at hj
  rw [bx] at hj
  simp only [if_true] at hj
  cases hj
  refine .sr fun _ cr=>?_
  refine .call PN rfl (fun w hw=>Kf w) trivial rfl ?_
  rintro r o ⟨us,rfl,rfl⟩
  refine .shape 2 rfl (fun W8=>?_)
  refine .ah 1 (us:=[.int .i64 gg.op,.int .i64 gg.lt,us]) (cs':=[.int .i64 gg.op,.int .i64 gg.lt,us]) rfl cy rfl rfl rfl rfl aJ (aT rfl) rfl trivial ?_
  refine .nt cr (.ret (.ae ?_))
  refine .np 0 (.deep aW []) rfl (fun R=>dy.nil R) (fun l2 dX gG=>?_)
  refine .close' 0 2 [aP] [aW] (by decide) rfl rfl rfl rfl rfl (mz gG) (fun l3 pz DT hr3=>?_)
  refine .cO [.cell 2 24] rfl (.cons (.cell aM rfl ax rfl rfl) (.nil)) (fun w hw=>⟨_,_,_,?_,rfl,.of (hw.pk [0])⟩)
  exact ⟨us,l3,rfl,W8,rfl,fun x hx=>pz _ (dX _ (h2.o.sub x hx)),DT,rfl⟩
 ·try simp only [bs] at bx
  unfold qu at hj
  rw [bx] at hj
  simp only [Bool.false_eq_true,if_false] at hj
  obtain ⟨p,hp,hj⟩:=bind_some hj
  obtain ⟨rfl,z8⟩:=js hp
  obtain ⟨q,hq,hj⟩:=bind_some hj
  cases hj
  refine .skip ?_
  refine .ab (bg _ ?_)
  refine .sr fun _ cJ=>?_
  refine .mv rfl ?_
  refine .call J1 rfl (fun w hw=>tV w 4 s ks ss lH h2.o.len h2.tl (fun i hi=>(h2.each i hi).len) ((cR.tree hB 0 rfl h2.o.rw w hw).mono fun b _ _=>⟨id,rfl⟩) (fun i hi=>((cR.tree hB 0 rfl (h2.each i hi).rw w hw).mono fun b _ _=>⟨id,rfl⟩)) h2.o.qd (fun i hi j hj=>(h2.each i hi).qd j hj) z8) trivial rfl ?_
  rintro pv o ⟨Xc,rfl⟩
  refine .aY 2 rfl F5 rfl (fun w Fs hw hh bI bc=>sC w (Fs 2) 171 F3 bb pv (bG 4 ks) (gY 4 ks ss lH) (h2.flat 4).1 (fun i hi=>((h2.flat 4).2 i hi).2) (hh.at_ 2 _ rfl) (fun w' yx i hi=>pR w' _ _)) trivial rfl ?_
  rintro v2 A o ⟨Mo,ku,rfl,rfl,ps⟩
  refine .as rfl (.nt cJ ?_)
  refine .sr fun _ cU=>?_
  refine .mv rfl ?_
  refine .aY 2 rfl PM rfl (fun w Fs hw hh bI bc=>y9 w (Fs 2) v2 _ Mo ps.len (by have:=ps.le;omega) q hq (hh.at_ 2 _ rfl) (fun i hi=>hh.qh hB 0 2 (by decide) rfl (ps.deep (fun k hk=>((h2.flat 4).2 k hk).1) i hi) bI bc)) trivial rfl ?_
  rintro v3 A o ⟨Qp,ym,rfl,rfl,Hk⟩
  refine .call F0 rfl (fun w hw=>vH w) trivial rfl ?_
  rintro r o ⟨rfl,rfl⟩
  refine .call J0 rfl (fun w hw=>tW w 4 v3 _ Qp Hk.len ((cR.own 2 rfl w hw).mono fun b _ _=>⟨id,rfl⟩) aP aW ((Hk.trans ps).qd fun i hi=>((h2.flat 4).2 i hi).2) cq) trivial rfl ?_
  rintro r o ⟨sr,rfl,qc,rfl,Cs⟩
  refine .ah 1 (us:=[.int .i64 (bp 4 q aP).op,.int .i64 (bp 4 q aP).lt,sr]) (cs':=[.int .i64 (bp 4 q aP).op,.int .i64 (bp 4 q aP).lt,sr]) rfl cy rfl rfl rfl rfl aJ (aT rfl) rfl trivial ?_
  refine .nt cU (.ret ?_)
  refine .close' 0 2 _ Qp (by decide) rfl rfl rfl rfl Hk.len ((Hk.trans ps).deep fun k hk=>((h2.flat 4).2 k hk).1) (fun l2 dX gG tj=>?_)
  refine .np 0 (.deep aW []) rfl (fun R=>dy.nil R) (fun l3 pz DT=>?_)
  refine .cO [.cell 2 24] rfl (.cons (.cell aM rfl ax rfl rfl) (.nil)) (fun w hw=>⟨_,_,_,?_,rfl,.of (hw.pk [0])⟩)
  exact ⟨sr,l3,rfl,qc,rfl,fun x hx=>pz _ (dX _ (h2.o.sub x hx)),nS (fun k hk=>pz _ (dX _ ((Hk.trans ps).deep (fun k hk=>((h2.flat 4).2 k hk).1) k hk))) (pz _ gG) DT Cs,rfl⟩
set_option maxHeartbeats 800000 in
theorem NT (w:World) (F:Nat→Prop) (B:Bs) (l:List cw) (hB:gI B w F) (hA:(aI B l).holds w F) (s:Value) (ks:List Ex) (hm:cw.deep s ks∈l) (j:Ex) (hj:uQ ks=some j):ck Tryz.prog 174 [s] w F (fun r A o=>∃ sr l',r = .agg #[.int .i64 j.op,.int .i64 j.lt,sr]∧aB sr∧A=aI B l'∧(∀ x∈l,x∈l')∧cw.deep sr j.kids∈l'∧o=[]):=by
 refine cu Tryz.func174 rfl (aT rfl) hA ?_
 refine .FQ 0 rfl hm fun l1 ss lH h2=>?_
 refine .sr fun _ bl=>?_
 refine .alloc cC rfl rfl trivial rfl (fun eu=>?_)
 refine .nt bl ?_
 refine .seq fun _ bg=>?_
 refine .sr fun _ bW=>?_
 refine .mv rfl ?_
 refine .call Cw rfl (fun w hw=>lx w 171 F3 bb s ks ss h2.o.len h2.o.qd ((cR.tree hB 0 rfl h2.o.rw w hw).mono fun b _ _=>⟨id,rfl⟩) (fun w' bI i hi=>pR w' _ _)) trivial rfl ?_
 rintro r o ⟨rfl,rfl⟩
 refine .nt bW ?_
 refine .cond rfl (fun bx=>?_) (fun bx=>?_)
 ·try simp only [bs] at bx
  unfold uQ at hj
  rw [bx] at hj
  simp only [if_true] at hj
  cases hj
  refine .sr fun _ cr=>?_
  refine .call F0 rfl (fun w hw=>vH w) trivial rfl ?_
  rintro r o ⟨rfl,rfl⟩
  refine .ah 1 (us:=[.int .i64 aP.op,.int .i64 aP.lt,aW]) (cs':=[.int .i64 aP.op,.int .i64 aP.lt,aW]) rfl cy rfl rfl rfl rfl aJ (aT rfl) rfl trivial ?_
  refine .nt cr (.ret (.ae ?_))
  refine .np 0 (.deep aW []) rfl (fun R=>dy.nil R) (fun l2 dX gG=>?_)
  refine .cO [.cell 2 24] rfl (.cons (.cell aM rfl ax rfl rfl) (.nil)) (fun w hw=>⟨_,_,_,?_,rfl,.of (hw.pk [0])⟩)
  exact ⟨aW,l2,rfl,cq,rfl,fun x hx=>dX _ (h2.o.sub x hx),gG,rfl⟩
 ·try simp only [bs] at bx
  unfold uQ at hj
  rw [bx] at hj
  simp only [Bool.false_eq_true,if_false] at hj
  obtain ⟨p,hp,hj⟩:=bind_some hj
  obtain ⟨rfl,z8⟩:=js hp
  obtain ⟨q,hq,hj⟩:=bind_some hj
  cases hj
  refine .skip ?_
  refine .ab (bg _ ?_)
  refine .sr fun _ cJ=>?_
  refine .mv rfl ?_
  refine .call J1 rfl (fun w hw=>tV w 6 s ks ss lH h2.o.len h2.tl (fun i hi=>(h2.each i hi).len) ((cR.tree hB 0 rfl h2.o.rw w hw).mono fun b _ _=>⟨id,rfl⟩) (fun i hi=>((cR.tree hB 0 rfl (h2.each i hi).rw w hw).mono fun b _ _=>⟨id,rfl⟩)) h2.o.qd (fun i hi j hj=>(h2.each i hi).qd j hj) z8) trivial rfl ?_
  rintro pv o ⟨Xc,rfl⟩
  refine .aY 2 rfl F5 rfl (fun w Fs hw hh bI bc=>sC w (Fs 2) 142 J4 fE pv (bG 6 ks) (gY 6 ks ss lH) (h2.flat 6).1 (fun i hi=>((h2.flat 6).2 i hi).2) (hh.at_ 2 _ rfl) (fun w' yx i hi=>wW w' _ _ ((hh.qh hB 0 2 (by decide) rfl ((h2.flat 6).2 i hi).1 bI bc).fr yx).wk)) trivial rfl ?_
  rintro v2 A o ⟨Mo,ku,rfl,rfl,ps⟩
  refine .as rfl (.nt cJ ?_)
  refine .sr fun _ cU=>?_
  refine .mv rfl ?_
  refine .aY 2 rfl PM rfl (fun w Fs hw hh bI bc=>y9 w (Fs 2) v2 _ Mo ps.len (by have:=ps.le;omega) q hq (hh.at_ 2 _ rfl) (fun i hi=>hh.qh hB 0 2 (by decide) rfl (ps.deep (fun k hk=>((h2.flat 6).2 k hk).1) i hi) bI bc)) trivial rfl ?_
  rintro v3 A o ⟨Qp,ym,rfl,rfl,Hk⟩
  refine .call PN rfl (fun w hw=>Kf w) trivial rfl ?_
  rintro r o ⟨us,rfl,rfl⟩
  refine .shape 3 rfl (fun W8=>?_)
  refine .call J0 rfl (fun w hw=>tW w 6 v3 _ Qp Hk.len ((cR.own 2 rfl w hw).mono fun b _ _=>⟨id,rfl⟩) gg us ((Hk.trans ps).qd fun i hi=>((h2.flat 6).2 i hi).2) W8) trivial rfl ?_
  rintro r o ⟨sr,rfl,qc,rfl,Cs⟩
  refine .ah 1 (us:=[.int .i64 (bp 6 q gg).op,.int .i64 (bp 6 q gg).lt,sr]) (cs':=[.int .i64 (bp 6 q gg).op,.int .i64 (bp 6 q gg).lt,sr]) rfl cy rfl rfl rfl rfl aJ (aT rfl) rfl trivial ?_
  refine .nt cU (.ret ?_)
  refine .close' 0 2 _ Qp (by decide) rfl rfl rfl rfl Hk.len ((Hk.trans ps).deep fun k hk=>((h2.flat 6).2 k hk).1) (fun l2 dX gG tj=>?_)
  refine .np 0 (.deep aW []) rfl (fun R=>dy.nil R) (fun l3 pz DT=>?_)
  refine .close' 0 3 [aP] [aW] (by decide) rfl rfl rfl rfl rfl (mz DT) (fun l4 rD DS MJ=>?_)
  refine .cO [.cell 2 24] rfl (.cons (.cell aM rfl ax rfl rfl) (.nil)) (fun w hw=>⟨_,_,_,?_,rfl,.of (hw.pk [0])⟩)
  exact ⟨sr,l4,rfl,qc,rfl,fun x hx=>rD _ (pz _ (dX _ (h2.o.sub x hx))),nS (fun k hk=>rD _ (pz _ (dX _ ((Hk.trans ps).deep (fun k hk=>((h2.flat 6).2 k hk).1) k hk)))) (rD _ (pz _ gG)) DS Cs,rfl⟩
end Go.Proofs.YtbibnpdnmmgacaaGreatDoor
namespace Go.Proofs.YtbibnpdnmmgacaaGreatDoor
open Go.Sx Go.RowKit
set_option maxHeartbeats 2000000 in
theorem ki (w:World) (F:Nat→Prop) (B:Bs) (l:List cw) (hB:gI B w F) (hA:(aI B l).holds w F) (op:Int) (s:Value) (ks:List Ex) (hm:cw.deep s ks∈l) (j:Ex) (hj:dN op ks=some j):ck Tryz.prog 150 [.int .i64 op,s] w F (fun r A o=>∃ sr l',r = .agg #[.int .i64 j.op,.int .i64 j.lt,sr]∧aB sr∧A=aI B l'∧(∀ x∈l,x∈l')∧cw.deep sr j.kids∈l'∧o=[]):=by
 refine cu Tryz.func150 rfl (aT rfl) hA ?_
 refine .FQ 0 rfl hm fun l1 ss lH h2=>?_
 have MM:=h2.o.ME
 refine .sr fun _ bl=>?_
 refine .alloc cC rfl rfl trivial rfl (fun iD=>?_)
 refine .nt bl ?_
 refine .seq fun _ bg=>?_
 refine .sr fun _ bW=>?_
 refine .mv rfl (.nt bW (.block ?_))
 refine .sr fun _ cr=>?_
 refine .v (.eql rfl rfl) (.as rfl (.nt cr ?_))
 refine .aA rfl (fun bx=>?_) (fun bx=>?_)
 ·refine .sr fun _ cJ=>?_
  refine .mv rfl ?_
  refine .aY 0 rfl VW rfl (fun w Fs hw hh bI bc=>NR w (Fs 0) B l1 (hB.later bI bc 0) (hh.at_ 0 _ rfl) s ks (h2.o.sub _ hm) j (by rw [dN,if_pos bx] at hj;exact hj)) trivial rfl ?_
  rintro r A o ⟨sr,l2,rfl,qc,rfl,dX,gG,rfl⟩
  refine .ah 1 (us:=[.int .i64 j.op,.int .i64 j.lt,sr]) (cs':=[.int .i64 j.op,.int .i64 j.lt,sr]) rfl cy rfl rfl rfl rfl aJ (aT rfl) rfl trivial ?_
  refine .nt cJ (.ret (.al (.ae ?_)))
  refine .cO [.cell 4 24] rfl (.cons (.cell aM rfl ax rfl rfl) (.nil)) (fun w hw=>⟨_,_,_,?_,rfl,.of (hw.pk [0])⟩)
  exact ⟨sr,l2,rfl,qc,rfl,fun x hx=>dX _ (h2.o.sub x hx),gG,rfl⟩
 ·refine .sr fun _ cU=>?_
  refine .v (.eql rfl rfl) (.as rfl (.nt cU ?_))
  refine .aA rfl (fun cB=>?_) (fun cB=>?_)
  ·refine .sr fun _ c7=>?_
   refine .mv rfl ?_
   refine .aY 0 rfl VV rfl (fun w Fs hw hh bI bc=>NS w (Fs 0) B l1 (hB.later bI bc 0) (hh.at_ 0 _ rfl) s ks (h2.o.sub _ hm) j (by rw [dN,if_neg bx,if_pos cB] at hj;exact hj)) trivial rfl ?_
   rintro r A o ⟨sr,l2,rfl,qc,rfl,dX,gG,rfl⟩
   refine .ah 1 (us:=[.int .i64 j.op,.int .i64 j.lt,sr]) (cs':=[.int .i64 j.op,.int .i64 j.lt,sr]) rfl cy rfl rfl rfl rfl aJ (aT rfl) rfl trivial ?_
   refine .nt c7 (.ret (.al (.ae ?_)))
   refine .cO [.cell 4 24] rfl (.cons (.cell aM rfl ax rfl rfl) (.nil)) (fun w hw=>⟨_,_,_,?_,rfl,.of (hw.pk [0])⟩)
   exact ⟨sr,l2,rfl,qc,rfl,fun x hx=>dX _ (h2.o.sub x hx),gG,rfl⟩
  ·refine .sr fun _ dm=>?_
   refine .v (.eql rfl rfl) (.as rfl (.nt dm ?_))
   refine .aA rfl (fun cZ=>?_) (fun cZ=>?_)
   ·refine .sr fun _ dD=>?_
    refine .mv rfl ?_
    refine .aY 0 rfl VU rfl (fun w Fs hw hh bI bc=>NT w (Fs 0) B l1 (hB.later bI bc 0) (hh.at_ 0 _ rfl) s ks (h2.o.sub _ hm) j (by rw [dN,if_neg bx,if_neg cB,if_pos cZ] at hj;exact hj)) trivial rfl ?_
    rintro r A o ⟨sr,l2,rfl,qc,rfl,dX,gG,rfl⟩
    refine .ah 1 (us:=[.int .i64 j.op,.int .i64 j.lt,sr]) (cs':=[.int .i64 j.op,.int .i64 j.lt,sr]) rfl cy rfl rfl rfl rfl aJ (aT rfl) rfl trivial ?_
    refine .nt dD (.ret (.al (.ae ?_)))
    refine .cO [.cell 4 24] rfl (.cons (.cell aM rfl ax rfl rfl) (.nil)) (fun w hw=>⟨_,_,_,?_,rfl,.of (hw.pk [0])⟩)
    exact ⟨sr,l2,rfl,qc,rfl,fun x hx=>dX _ (h2.o.sub x hx),gG,rfl⟩
   ·refine .skip (.ag ?_)
    refine .ab (bg _ ?_)
    refine .seq fun _ bJ=>?_
    refine .sr fun _ bP=>?_
    refine .mv rfl ?_
    refine .v (.aZ aR rfl (by exact cR.tree hB 0 rfl h2.o.rw)) ?_
    refine .v (.neq rfl rfl) (.nt bP ?_)
    refine .df rfl (fun iz=>?_) (fun iz=>?_)
    ·rw [dN,if_neg bx,if_neg cB,if_neg cZ,if_neg (by omega)] at hj
     cases hj
     refine .sr fun _ ct=>?_
     refine .v (.build (parts:=[]) (cs:=#[.int .i64 0,.int .i64 0,.slice none 0 0]) rfl (by kernel_rfl)) ?_
     refine .ah 1 (us:=[.int .i64 e0.op,.int .i64 e0.lt,aW]) (cs':=[.int .i64 e0.op,.int .i64 e0.lt,aW]) rfl cy rfl rfl rfl rfl aJ (aT rfl) rfl trivial ?_
     refine .nt ct (.ret (.ae ?_))
     refine .np 0 (.deep aW []) rfl (fun R=>dy.nil R) (fun l2 dX gG=>?_)
     refine .cO [.cell 4 24] rfl (.cons (.cell aM rfl ax rfl rfl) (.nil)) (fun w hw=>⟨_,_,_,?_,rfl,.of (hw.pk [0])⟩)
     exact ⟨aW,l2,rfl,cq,rfl,fun x hx=>dX _ (h2.o.sub x hx),gG,rfl⟩
    ·have Ho:ks.length=1:=by omega
     rw [dN,if_neg bx,if_neg cB,if_neg cZ,if_pos Ho] at hj
     cases hj
     have QI:=h2.each 0 (by omega)
     have aa4:=QI.ME
     have sk:=h2.o.qd 0 (by omega)
     refine .skip ?_
     refine .ab (bJ _ ?_)
     refine .sr fun _ cK=>?_
     refine .mv rfl ?_
     refine .v (.qi (k:=0) aR rfl rfl (by exact cR.tree hB 0 rfl h2.o.rw) (by decide) (by omega)) ?_
     refine .v (.da aM rfl (by exact cR.tree hB 0 rfl h2.o.rw) (h2.o.len) rfl (by omega)) ?_
     refine .alloc cC rfl rfl trivial rfl (fun D4=>?_)
     refine .ah 2 (us:=[.int .i64 (ks.getD 0 default).op,.int .i64 (ks.getD 0 default).lt,ss.getD 0 undef]) (cs':=[.int .i64 (ks.getD 0 default).op,.int .i64 (ks.getD 0 default).lt,ss.getD 0 undef]) rfl cy rfl rfl rfl rfl aJ (aT rfl) rfl trivial ?_
     refine .nt cK ?_
     refine .seq fun _ cW=>?_
     refine .sr fun _ c8=>?_
     refine .mv rfl (.nt c8 (.block ?_))
     refine .sr fun _ dw=>?_
     refine .v (.eql rfl rfl) (.as rfl (.nt dw ?_))
     refine .aA rfl (fun gn=>?_) (fun gn=>?_)
     ·refine .seq fun _ dE=>?_
      refine .sr fun _ dR=>?_
      refine .v (.fieldAddr cP rfl) (.v (.aa cQ rfl ax rfl) (.v (.eql rfl rfl) (.mv rfl ?_)))
      refine .bQ (g:=32) rfl (fun gT=>?_) (fun gT=>?_)
      ·have mG:=gT
       try simp only [bs] at mG
       refine .val _ (.fieldAddr bM rfl) ⟨_,rfl,gB gT⟩ rfl ?_
       refine .val _ (.aa du rfl ax rfl) ⟨_,rfl,gB gT⟩ rfl ?_
       refine .val _ (.aZ aR rfl (by exact cR.tree hB 0 rfl QI.rw)) ⟨_,rfl,gB gT⟩ rfl ?_
       refine .val _ (.eql rfl rfl) ⟨_,rfl,gB gT⟩ rfl ?_
       refine .v (.bw rfl (gT) rfl) (.nt dR ?_)
       refine .aA rfl (fun qp=>?_) (fun qp=>?_)
       ·have FA:(ks.getD 0 default).op=8∧(ks.getD 0 default).kids.length=1:=⟨mG,by omega⟩
        have Xe:=QI.qd 0 (by omega)
        refine .sr fun _ dO=>?_
        refine .v (.fieldAddr bM rfl) (.v (.aa du rfl ax rfl) ?_)
        refine .v (.qi (k:=0) aR rfl rfl (by exact cR.tree hB 0 rfl QI.rw) (by decide) (by omega)) ?_
        refine .v (.da aM rfl (by exact cR.tree hB 0 rfl QI.rw) (QI.len) rfl (by omega)) ?_
        refine .ah 1 (us:=[.int .i64 ((ks.getD 0 default).kids.getD 0 default).op,.int .i64 ((ks.getD 0 default).kids.getD 0 default).lt,(lH.getD 0 []).getD 0 undef]) (cs':=[.int .i64 ((ks.getD 0 default).kids.getD 0 default).op,.int .i64 ((ks.getD 0 default).kids.getD 0 default).lt,(lH.getD 0 []).getD 0 undef]) rfl cy rfl rfl rfl rfl aJ (aT rfl) rfl trivial ?_
        refine .nt dO (.ret (.ae (.al (.ae ?_))))
        refine .cO [.cell 4 24] rfl (.cons (.cell aM rfl ax rfl rfl) (.nil)) (fun w hw=>⟨_,_,_,?_,rfl,.of (hw.pk [0])⟩)
        rw [show eK op (ks.getD 0 default)=(ks.getD 0 default).kids.getD 0 default from by unfold eK;rw [if_pos gn,if_pos FA]]
        exact ⟨(lH.getD 0 []).getD 0 undef,l1,rfl,Xe,rfl,h2.o.sub,QI.th 0 (by omega),rfl⟩
       ·refine .skip ?_
        refine .ab (dE _ ?_)
        refine .sr fun _ eJ=>?_
        refine .v (.ak aM rfl ax rfl rfl) ?_
        refine .lit (xs:=[.tmp 42]) aR cC rfl rfl rfl (by simp [Value.cells]) (by decide) (by decide) trivial rfl (fun lv=>?_)
        refine .shape 3 rfl (fun BP=>?_)
        refine .v (.build (parts:=[(0,.const (.int .i64 8)),(2,.tmp 43)]) (cs:=#[.int .i64 8,.int .i64 0,lv]) rfl (by obtain ⟨_,_,_,rfl⟩:=BP;kernel_rfl)) ?_
        refine .ah 1 (us:=[.int .i64 8,.int .i64 0,lv]) (cs':=[.int .i64 8,.int .i64 0,lv]) rfl cy rfl rfl rfl rfl aJ (aT rfl) rfl trivial ?_
        refine .nt eJ (.ret (.al (.ae ?_)))
        refine .close' 0 3 [(ks.getD 0 default)] [ss.getD 0 undef] (by decide) rfl rfl rfl rfl rfl (mz (h2.o.th 0 (by omega))) (fun l2 dX gG tj=>?_)
        refine .cO [.cell 4 24] rfl (.cons (.cell aM rfl ax rfl rfl) (.nil)) (fun w hw=>⟨_,_,_,?_,rfl,.of (hw.pk [0])⟩)
        rw [show eK op (ks.getD 0 default) = .mk 8 0 [(ks.getD 0 default)] from by unfold eK;rw [if_pos gn,if_neg (by rintro ⟨a,b⟩;first | exact mG a | omega)]]
        exact ⟨lv,l2,rfl,BP,rfl,fun x hx=>dX _ (h2.o.sub x hx),gG,rfl⟩
      ·have mG:=gT
       try simp only [bs] at mG
       refine .pass rfl rfl (gT) rfl ?_
       refine .pass rfl rfl (gT) rfl ?_
       refine .pass rfl rfl (gT) rfl ?_
       refine .pass rfl rfl (gT) rfl ?_
       refine .v (.cH rfl (gT) rfl) (.nt dR ?_)
       refine .dH rfl (rfl) ?_
       refine .skip ?_
       refine .ab (dE _ ?_)
       refine .sr fun _ eY=>?_
       refine .v (.ak aM rfl ax rfl rfl) ?_
       refine .lit (xs:=[.tmp 42]) aR cC rfl rfl rfl (by simp [Value.cells]) (by decide) (by decide) trivial rfl (fun lv=>?_)
       refine .shape 3 rfl (fun BP=>?_)
       refine .v (.build (parts:=[(0,.const (.int .i64 8)),(2,.tmp 43)]) (cs:=#[.int .i64 8,.int .i64 0,lv]) rfl (by obtain ⟨_,_,_,rfl⟩:=BP;kernel_rfl)) ?_
       refine .ah 1 (us:=[.int .i64 8,.int .i64 0,lv]) (cs':=[.int .i64 8,.int .i64 0,lv]) rfl cy rfl rfl rfl rfl aJ (aT rfl) rfl trivial ?_
       refine .nt eY (.ret (.al (.ae ?_)))
       refine .close' 0 3 [(ks.getD 0 default)] [ss.getD 0 undef] (by decide) rfl rfl rfl rfl rfl (mz (h2.o.th 0 (by omega))) (fun l2 dX gG tj=>?_)
       refine .cO [.cell 4 24] rfl (.cons (.cell aM rfl ax rfl rfl) (.nil)) (fun w hw=>⟨_,_,_,?_,rfl,.of (hw.pk [0])⟩)
       rw [show eK op (ks.getD 0 default) = .mk 8 0 [(ks.getD 0 default)] from by unfold eK;rw [if_pos gn,if_neg (by rintro ⟨a,b⟩;first | exact mG a | omega)]]
       exact ⟨lv,l2,rfl,BP,rfl,fun x hx=>dX _ (h2.o.sub x hx),gG,rfl⟩
     ·refine .sr fun _ eI=>?_
      refine .v (.eql rfl rfl) (.as rfl (.nt eI ?_))
      refine .aA rfl (fun ka=>?_) (fun ka=>?_)
      ·refine .seq fun _ fH=>?_
       refine .block ?_
       refine .sr fun _ gq=>?_
       refine .v (.fieldAddr cP rfl) (.v (.aa cQ rfl ax rfl) (.v (.eql rfl rfl) (.mv rfl ?_)))
       refine .bQ (g:=51) rfl (fun jg=>?_) (fun jg=>?_)
       ·have lh:=jg
        try simp only [bs] at lh
        refine .pass rfl rfl (jg) rfl ?_
        refine .pass rfl rfl (jg) rfl ?_
        refine .pass rfl rfl (jg) rfl ?_
        refine .v (.bw rfl (jg) rfl) (.as rfl (.nt gq ?_))
        refine .cD rfl (rfl) ?_
        refine .sr fun _ iT=>?_
        refine .call J2 rfl (fun w hw=>Em w) trivial rfl ?_
        rintro r o ⟨rfl,rfl⟩
        refine .ah 1 (us:=[.int .i64 bu.op,.int .i64 bu.lt,aW]) (cs':=[.int .i64 bu.op,.int .i64 bu.lt,aW]) rfl cy rfl rfl rfl rfl aJ (aT rfl) rfl trivial ?_
        refine .nt iT (.ret (.al (.ae (.al (.ae ?_)))))
        refine .np 0 (.deep aW []) rfl (fun R=>dy.nil R) (fun l2 dX gG=>?_)
        refine .cO [.cell 4 24] rfl (.cons (.cell aM rfl ax rfl rfl) (.nil)) (fun w hw=>⟨_,_,_,?_,rfl,.of (hw.pk [0])⟩)
        rw [show eK op (ks.getD 0 default)=bu from by unfold eK;rw [if_neg gn,if_pos ka,if_pos (by exact .inl lh)]]
        exact ⟨aW,l2,rfl,cq,rfl,fun x hx=>dX _ (h2.o.sub x hx),gG,rfl⟩
       ·have lh:=jg
        try simp only [bs] at lh
        refine .val _ (.fieldAddr cP rfl) ⟨_,rfl,gB jg⟩ rfl ?_
        refine .val _ (.aa cQ rfl ax rfl) ⟨_,rfl,gB jg⟩ rfl ?_
        refine .val _ (.eql rfl rfl) ⟨_,rfl,gB jg⟩ rfl ?_
        refine .v (.cH rfl (jg) rfl) (.as rfl (.nt gq ?_))
        refine .aA rfl (fun tb=>?_) (fun tb=>?_)
        ·refine .sr fun _ iZ=>?_
         refine .call J2 rfl (fun w hw=>Em w) trivial rfl ?_
         rintro r o ⟨rfl,rfl⟩
         refine .ah 1 (us:=[.int .i64 bu.op,.int .i64 bu.lt,aW]) (cs':=[.int .i64 bu.op,.int .i64 bu.lt,aW]) rfl cy rfl rfl rfl rfl aJ (aT rfl) rfl trivial ?_
         refine .nt iZ (.ret (.al (.ae (.al (.ae ?_)))))
         refine .np 0 (.deep aW []) rfl (fun R=>dy.nil R) (fun l2 dX gG=>?_)
         refine .cO [.cell 4 24] rfl (.cons (.cell aM rfl ax rfl rfl) (.nil)) (fun w hw=>⟨_,_,_,?_,rfl,.of (hw.pk [0])⟩)
         rw [show eK op (ks.getD 0 default)=bu from by unfold eK;rw [if_neg gn,if_pos ka,if_pos (by exact .inr tb)]]
         exact ⟨aW,l2,rfl,cq,rfl,fun x hx=>dX _ (h2.o.sub x hx),gG,rfl⟩
        ·refine .sr fun _ iS=>?_
         refine .v (.fieldAddr cP rfl) (.v (.aa cQ rfl ax rfl) (.v (.eql rfl rfl) (.mv rfl ?_)))
         refine .bQ (g:=61) rfl (fun kG=>?_) (fun kG=>?_)
         ·have o9:=kG
          try simp only [bs] at o9
          refine .pass rfl rfl (kG) rfl ?_
          refine .pass rfl rfl (kG) rfl ?_
          refine .v (.bw rfl (kG) rfl) (.as rfl (.nt iS ?_))
          refine .cD rfl (rfl) ?_
          refine .sr fun _ jy=>?_
          refine .v (.ak aM rfl ax rfl rfl) ?_
          refine .ah 1 (us:=[.int .i64 (ks.getD 0 default).op,.int .i64 (ks.getD 0 default).lt,ss.getD 0 undef]) (cs':=[.int .i64 (ks.getD 0 default).op,.int .i64 (ks.getD 0 default).lt,ss.getD 0 undef]) rfl cy rfl rfl rfl rfl aJ (aT rfl) rfl trivial ?_
          refine .nt jy (.ret (.al (.ae (.al (.ae ?_)))))
          refine .cO [.cell 4 24] rfl (.cons (.cell aM rfl ax rfl rfl) (.nil)) (fun w hw=>⟨_,_,_,?_,rfl,.of (hw.pk [0])⟩)
          rw [show eK op (ks.getD 0 default)=(ks.getD 0 default) from by unfold eK;rw [if_neg gn,if_pos ka,if_neg (by rintro (h | h);exact lh h;exact tb h),if_pos (by exact .inl o9)]]
          exact ⟨ss.getD 0 undef,l1,rfl,sk,rfl,h2.o.sub,h2.o.th 0 (by omega),rfl⟩
         ·have o9:=kG
          try simp only [bs] at o9
          refine .val _ (.ak aM rfl ax rfl rfl) ⟨_,rfl,gB kG⟩ rfl ?_
          refine .call J4 rfl (fun w hw=>wW w (ks.getD 0 default) _ (hw.qh hB 0 rfl (h2.o.th 0 (by omega)))) ⟨_,rfl,gB kG⟩ rfl ?_
          rintro r o ⟨rfl,rfl⟩
          refine .v (.cH rfl (kG) rfl) (.as rfl (.nt iS ?_))
          refine .cond rfl (fun FB=>?_) (fun FB=>?_)
          ·try simp only [bs] at FB
           refine .sr fun _ kf=>?_
           refine .v (.ak aM rfl ax rfl rfl) ?_
           refine .ah 1 (us:=[.int .i64 (ks.getD 0 default).op,.int .i64 (ks.getD 0 default).lt,ss.getD 0 undef]) (cs':=[.int .i64 (ks.getD 0 default).op,.int .i64 (ks.getD 0 default).lt,ss.getD 0 undef]) rfl cy rfl rfl rfl rfl aJ (aT rfl) rfl trivial ?_
           refine .nt kf (.ret (.al (.ae (.al (.ae ?_)))))
           refine .cO [.cell 4 24] rfl (.cons (.cell aM rfl ax rfl rfl) (.nil)) (fun w hw=>⟨_,_,_,?_,rfl,.of (hw.pk [0])⟩)
           rw [show eK op (ks.getD 0 default)=(ks.getD 0 default) from by unfold eK;rw [if_neg gn,if_pos ka,if_neg (by rintro (h | h);exact lh h;exact tb h),if_pos (by exact .inr FB)]]
           exact ⟨ss.getD 0 undef,l1,rfl,sk,rfl,h2.o.sub,h2.o.th 0 (by omega),rfl⟩
          ·try simp only [bs] at FB
           refine .skip (.ag ?_)
           refine .ab (fH _ ?_)
           refine .sr fun _ kB=>?_
           refine .v (.ak aM rfl ax rfl rfl) ?_
           refine .lit (xs:=[.tmp 66]) aR cC rfl rfl rfl (by simp [Value.cells]) (by decide) (by decide) trivial rfl (fun lv=>?_)
           refine .shape 3 rfl (fun BP=>?_)
           refine .v (.build (parts:=[(0,.const (.int .i64 7)),(2,.tmp 67)]) (cs:=#[.int .i64 7,.int .i64 0,lv]) rfl (by obtain ⟨_,_,_,rfl⟩:=BP;kernel_rfl)) ?_
           refine .ah 1 (us:=[.int .i64 7,.int .i64 0,lv]) (cs':=[.int .i64 7,.int .i64 0,lv]) rfl cy rfl rfl rfl rfl aJ (aT rfl) rfl trivial ?_
           refine .nt kB (.ret (.al (.ae ?_)))
           refine .close' 0 3 [(ks.getD 0 default)] [ss.getD 0 undef] (by decide) rfl rfl rfl rfl rfl (mz (h2.o.th 0 (by omega))) (fun l2 dX gG tj=>?_)
           refine .cO [.cell 4 24] rfl (.cons (.cell aM rfl ax rfl rfl) (.nil)) (fun w hw=>⟨_,_,_,?_,rfl,.of (hw.pk [0])⟩)
           rw [show eK op (ks.getD 0 default) = .mk 7 0 [(ks.getD 0 default)] from by unfold eK;rw [if_neg gn,if_pos ka,if_neg (by rintro (h | h);exact lh h;exact tb h),if_neg (by rintro (h | h);exact o9 h;rw [FB] at h;cases h)]]
           exact ⟨lv,l2,rfl,BP,rfl,fun x hx=>dX _ (h2.o.sub x hx),gG,rfl⟩
      ·refine .skip (.ag ?_)
       refine .ab (cW _ ?_)
       refine .sr fun _ ke=>?_
       refine .v (.build (parts:=[]) (cs:=#[.int .i64 0,.int .i64 0,.slice none 0 0]) rfl (by kernel_rfl)) ?_
       refine .ah 1 (us:=[.int .i64 e0.op,.int .i64 e0.lt,aW]) (cs':=[.int .i64 e0.op,.int .i64 e0.lt,aW]) rfl cy rfl rfl rfl rfl aJ (aT rfl) rfl trivial ?_
       refine .nt ke (.ret ?_)
       refine .np 0 (.deep aW []) rfl (fun R=>dy.nil R) (fun l2 dX gG=>?_)
       refine .cO [.cell 4 24] rfl (.cons (.cell aM rfl ax rfl rfl) (.nil)) (fun w hw=>⟨_,_,_,?_,rfl,.of (hw.pk [0])⟩)
       rw [show eK op (ks.getD 0 default)=e0 from by unfold eK;rw [if_neg gn,if_neg ka]]
       exact ⟨aW,l2,rfl,cq,rfl,fun x hx=>dX _ (h2.o.sub x hx),gG,rfl⟩
end Go.Proofs.YtbibnpdnmmgacaaGreatDoor
namespace Go.Proofs.YtbibnpdnmmgacaaGreatDoor
open Go.Sx Go.RowKit
def RG (e:Ex):Prop:=∀ (w:World) (F:Nat→Prop) (B:Bs) (l:List cw) (hB:gI B w F) (hA:(aI B l).holds w F) (s:Value) (hm:cw.deep s e.kids∈l) (j:Ex) (hj:kr e=some j),ck Tryz.prog 100 [.agg #[.int .i64 e.op,.int .i64 e.lt,s]] w F (fun r A o=>∃ sr l',r = .agg #[.int .i64 j.op,.int .i64 j.lt,sr]∧aB sr∧A=aI B l'∧(∀ x∈l,x∈l')∧cw.deep sr j.kids∈l'∧o=[])
set_option maxHeartbeats 2000000 in
theorem Dx (e:Ex) (ih:∀ i,i<e.kids.length→RG (e.kids.getD i default)) (w:World) (F:Nat→Prop) (B:Bs) (l:List cw) (hB:gI B w F) (hA:(aI B l).holds w F) (s:Value) (hm:cw.deep s e.kids∈l) (j:Ex) (hj:kr e=some j):ck Tryz.prog 100 [.agg #[.int .i64 e.op,.int .i64 e.lt,s]] w F (fun r A o=>∃ sr l',r = .agg #[.int .i64 j.op,.int .i64 j.lt,sr]∧aB sr∧A=aI B l'∧(∀ x∈l,x∈l')∧cw.deep sr j.kids∈l'∧o=[]):=by
 refine cu Tryz.func100 rfl (aT rfl) hA ?_
 refine .rQ 0 rfl hm fun l1 ss h2=>?_
 have MM:=h2.ME
 rw [K5] at hj
 refine .sr fun _ bl=>?_
 refine .cS (E:=24) (cs:=[.int .i64 e.op,.int .i64 e.lt,s]) rfl rfl rfl trivial rfl (fun jV=>?_)
 refine .alloc cC rfl rfl trivial rfl (fun eu=>?_)
 refine .nt bl ?_
 refine .seq fun _ bg=>?_
 refine .sr fun _ bW=>?_
 refine .v (.fieldAddr bM rfl) (.v (.aa du rfl ax rfl) ?_)
 refine .v (.aZ aR rfl (by exact cR.tree hB 0 rfl h2.rw)) ?_
 refine .v (.eql rfl rfl) (.nt bW ?_)
 refine .aA rfl (fun bx=>?_) (fun bx=>?_)
 ·rw [if_pos (by omega)] at hj
  cases hj
  refine .sr fun _ cr=>?_
  refine .v (.fieldAddr cP rfl) (.v (.aa cQ rfl ax rfl) (.v (.fieldAddr gr rfl) (.v (.aa cQ rfl ax rfl) ?_)))
  refine .v (.build (parts:=[(0,.tmp 11),(1,.tmp 13)]) (cs:=#[.int .i64 e.op,.int .i64 e.lt,.slice none 0 0]) rfl (by kernel_rfl)) ?_
  refine .ah 2 (us:=[.int .i64 (Ex.mk e.op e.lt []).op,.int .i64 (Ex.mk e.op e.lt []).lt,aW]) (cs':=[.int .i64 (Ex.mk e.op e.lt []).op,.int .i64 (Ex.mk e.op e.lt []).lt,aW]) rfl cy rfl rfl rfl rfl aJ (aT rfl) rfl trivial ?_
  refine .nt cr (.ret (.ae ?_))
  refine .np 0 (.deep aW []) rfl (fun R=>dy.nil R) (fun l2 dX gG=>?_)
  refine .cO [.cell 2 24] rfl (.cons (.cell aM rfl ax rfl rfl) (.nil)) (fun w hw=>⟨_,_,_,?_,rfl,.of (hw.pk [0])⟩)
  exact ⟨aW,l2,rfl,cq,rfl,fun x hx=>dX _ (h2.sub x hx),gG,rfl⟩
 ·rw [if_neg (by omega)] at hj
  split at hj
  rotate_left
  ·cases hj
  rename_i z8
  obtain ⟨L,hL,hj⟩:=bind_some hj
  obtain ⟨XZ,hLk⟩:=CJ hL
  refine .skip ?_
  refine .ab (bg _ ?_)
  refine .sr fun _ cJ=>?_
  refine .v (.fieldAddr bM rfl) (.v (.aa du rfl ax rfl) ?_)
  refine .v (.aZ aR rfl (by exact cR.tree hB 0 rfl h2.rw)) ?_
  refine .uP aR cC rfl rfl (by omega) (by omega) trivial rfl (fun iQ=>?_)
  refine .as rfl (.nt cJ ?_)
  refine .seq fun _ cU=>?_
  refine .sr fun _ c7=>?_
  refine .v (.fieldAddr bM rfl) (.v (.aa du rfl ax rfl) ?_)
  refine .v (.aZ aR rfl (by exact cR.tree hB 0 rfl h2.rw)) ?_
  refine .mv rfl (.nt c7 (.block ?_))
  refine .bE (X:=List Value × List cw) [(1,_),(2,_),(3,_),(20,_),(21,_)] (fun x=>[(22,.int .i64 (x.1.length:Int))]) (fun x=>[aI B x.2,box jV 24 3 [.int .i64 e.op,.int .i64 e.lt,s],box eu 24 3 [.int .i64 0,.int .i64 0,.slice none 0 0],row iQ 24 3 e.kids.length (dc (fR e.kids.length L x.1.length) (dS e.kids.length x.1))]) (fun x=>x.1.length≤e.kids.length∧(∀ y∈l1,y∈x.2)∧kJ x.2 L x.1) (fun x=>e.kids.length - x.1.length) (([],l1)) aU ?_ ?_ ?_ ?_
  ·exact ⟨Nat.zero_le _,fun y hy=>hy,kJ.nil _ _⟩
  ·exact aU
  ·exact fun w hw=>by obtain ⟨e1,e2⟩:=kM e.kids.length L;simp only [List.length_nil];rw [e1,e2];exact hw
  ·intro x aV _ dm
   refine .sr fun _ dD=>?_
   refine .v (.lss rfl rfl) (.nt dD ?_)
   refine .seq fun _ bJ=>?_
   refine .aA rfl (fun cB=>?_) (fun cB=>?_)
   ·have eo:x.1.length<e.kids.length:=by omega
    have sk:=h2.qd x.1.length eo
    refine .skip ?_
    refine .ab (bJ _ ?_)
    refine .seq fun _ bP=>?_
    refine .block ?_
    refine .sr fun _ ct=>?_
    refine .mv rfl ?_
    refine .v (.iN aR rfl rfl (hr:=(by exact cR.tree hB 0 rfl (aV.2.1 _ h2.rw)))) ?_
    refine .v (.da aM rfl (by exact cR.tree hB 0 rfl (aV.2.1 _ h2.rw)) h2.len rfl (by omega)) ?_
    refine .alloc cC rfl rfl trivial rfl (fun D4=>?_)
    refine .as rfl ?_
    refine .ah 4 (us:=[.int .i64 (e.kids.getD x.1.length default).op,.int .i64 (e.kids.getD x.1.length default).lt,ss.getD x.1.length undef]) (cs':=[.int .i64 (e.kids.getD x.1.length default).op,.int .i64 (e.kids.getD x.1.length default).lt,ss.getD x.1.length undef]) rfl cy rfl rfl rfl rfl aJ (aT rfl) rfl trivial ?_
    refine .nt ct ?_
    refine .region ?_
    refine .mv rfl (.mv rfl (.v (.ak aM rfl ax rfl rfl) ?_))
    refine .aY 0 rfl J6 rfl (fun w Fs hw hh bI bc=>ih x.1.length eo w (Fs 0) B x.2 (hB.later bI bc 0) (hh.at_ 0 _ rfl) _ (aV.2.1 _ (h2.th _ eo)) (L.getD x.1.length default) (hLk _ eo)) trivial rfl ?_
    rintro r A o ⟨sr,l2,rfl,qc,rfl,dX,gG,rfl⟩
    refine .v (.iN aR rfl rfl (hr:=(by exact a8))) ?_
    refine .fV 3 rfl cy rfl rfl rfl rfl (aw rfl (aw rfl (aw (aB.one qc) bY))) (by omega) (cs':=dc (fR e.kids.length L (x.1.length+1)) (dS e.kids.length (x.1++[sr]))) (j5 XZ eo sr) trivial ?_
    refine .nil (.ag ?_)
    refine .ab (bP _ ?_)
    refine .region ?_
    refine .v (.add rfl rfl (by omega)) ?_
    refine .mv rfl (.nil ?_)
    refine .ab (dm _ _ ((x.1++[sr],l2)) ⟨by simp;omega,fun y hy=>dX _ (aV.2.1 y hy),(aV.2.2.later dX).snoc gG qc⟩ (by simp;omega) (.cons (s9 rfl (by simp)) (aU)) (fun w hw=>by have h:=hw.pk [0,1,2,3];simpa using h))
   ·have eo:x.1.length=e.kids.length:=by omega
    refine .exit (.ai (.ai (.ar ?_)))
    refine .ab (cU _ ?_)
    refine .sr fun _ cK=>?_
    refine .v (.fieldAddr cP rfl) (.v (.aa cQ rfl ax rfl) (.mv rfl ?_))
    refine .close' 0 3 L x.1 (by decide) rfl rfl XZ.symm (by rw [eo];obtain ⟨e1,e2⟩:=kN XZ eo;rw [e1,e2]) (by omega) (fun k hk=>aV.2.2.d k (by omega)) (fun l2 dX gG tj=>?_)
    refine .aY 0 rfl nZ rfl (fun w Fs hw hh bI bc=>ki w (Fs 0) B l2 (hB.later bI bc 0) (hh.at_ 0 _ rfl) e.op _ L gG j hj) trivial rfl ?_
    rintro r A o ⟨sr,l3,rfl,qc,rfl,pz,DT,rfl⟩
    refine .ah 2 (us:=[.int .i64 j.op,.int .i64 j.lt,sr]) (cs':=[.int .i64 j.op,.int .i64 j.lt,sr]) rfl cy rfl rfl rfl rfl aJ (aT rfl) rfl trivial ?_
    refine .nt cK (.ret ?_)
    refine .cO [.cell 2 24] rfl (.cons (.cell aM rfl ax rfl rfl) (.nil)) (fun w hw=>⟨_,_,_,?_,rfl,.of (hw.pk [0])⟩)
    exact ⟨sr,l3,rfl,qc,rfl,fun y hy=>pz _ (dX _ (aV.2.1 _ (h2.sub y hy))),DT,rfl⟩
theorem Kh (e:Ex):RG e:=Ex.ind (P:=RG) (fun e ih w F B l hB hA s hm j hj=>Dx e ih w F B l hB hA s hm j hj) e
set_option maxHeartbeats 800000 in
theorem Kj (e:Ex) (w:World) (F:Nat→Prop) (B:Bs) (l:List cw) (hB:gI B w F) (hA:(aI B l).holds w F) (s:Value) (hm:cw.deep s e.kids∈l) (j:Ex) (hj:uO e=some j):ck Tryz.prog 45 [.agg #[.int .i64 e.op,.int .i64 e.lt,s]] w F (fun r A o=>∃ sr l',r = .agg #[.int .i64 j.op,.int .i64 j.lt,sr]∧aB sr∧A=aI B l'∧(∀ x∈l,x∈l')∧cw.deep sr j.kids∈l'∧o=[]):=by
 refine cu Tryz.func45 rfl (aT rfl) hA ?_
 refine .sr fun _ bl=>?_
 refine .cS (E:=24) (cs:=[.int .i64 e.op,.int .i64 e.lt,s]) rfl rfl rfl trivial rfl (fun jV=>?_)
 refine .alloc cC rfl rfl trivial rfl (fun eu=>?_)
 refine .nt bl ?_
 refine .seq fun _ bg=>?_
 refine .sr fun _ bW=>?_
 refine .v (.ak aM rfl ax rfl rfl) ?_
 refine .call Ry rfl (fun w hw=>El w e s (hw.qh hB 0 rfl hm)) trivial rfl ?_
 rintro r o ⟨rfl,rfl⟩
 refine .v (.not rfl) (.nt bW ?_)
 refine .eW rfl (fun bx=>?_) (fun bx=>?_)
 ·unfold uO at hj
  rw [if_neg (by simpa using bx)] at hj
  cases hj
  refine .sr fun _ cr=>?_
  refine .v (.build (parts:=[]) (cs:=#[.int .i64 0,.int .i64 0,.slice none 0 0]) rfl (by kernel_rfl)) ?_
  refine .ah 2 (us:=[.int .i64 e0.op,.int .i64 e0.lt,aW]) (cs':=[.int .i64 e0.op,.int .i64 e0.lt,aW]) rfl cy rfl rfl rfl rfl aJ (aT rfl) rfl trivial ?_
  refine .nt cr (.ret (.ae ?_))
  refine .np 0 (.deep aW []) rfl (fun R=>dy.nil R) (fun l2 dX gG=>?_)
  refine .cO [.cell 2 24] rfl (.cons (.cell aM rfl ax rfl rfl) (.nil)) (fun w hw=>⟨_,_,_,?_,rfl,.of (hw.pk [0])⟩)
  exact ⟨aW,l2,rfl,cq,rfl,dX,gG,rfl⟩
 ·unfold uO at hj
  rw [if_pos (by simpa using bx)] at hj
  refine .skip ?_
  refine .ab (bg _ ?_)
  refine .sr fun _ cJ=>?_
  refine .v (.ak aM rfl ax rfl rfl) ?_
  refine .aY 0 rfl J6 rfl (fun w Fs hw hh bI bc=>Kh e w (Fs 0) B l (hB.later bI bc 0) (hh.at_ 0 _ rfl) s hm j hj) trivial rfl ?_
  rintro r A o ⟨sr,l2,rfl,qc,rfl,dX,gG,rfl⟩
  refine .ah 2 (us:=[.int .i64 j.op,.int .i64 j.lt,sr]) (cs':=[.int .i64 j.op,.int .i64 j.lt,sr]) rfl cy rfl rfl rfl rfl aJ (aT rfl) rfl trivial ?_
  refine .nt cJ (.ret ?_)
  refine .cO [.cell 2 24] rfl (.cons (.cell aM rfl ax rfl rfl) (.nil)) (fun w hw=>⟨_,_,_,?_,rfl,.of (hw.pk [0])⟩)
  exact ⟨sr,l2,rfl,qc,rfl,dX,gG,rfl⟩
end Go.Proofs.YtbibnpdnmmgacaaGreatDoor
namespace Go.Proofs.YtbibnpdnmmgacaaGreatDoor
open Go.Sx Go.RowKit
def JJ (a:Int) (nm:Bool) (e:Ex):Prop:=∀ (w:World) (F:Nat→Prop) (B:Bs) (l:List cw) (hB:gI B w F) (hA:(aI B l).holds w F) (s:Value) (hm:cw.deep s e.kids∈l) (d:Dv) (hd:eM a nm e=some d),ck Tryz.prog 103 [.agg #[.int .i64 a,.bool nm],.agg #[.int .i64 e.op,.int .i64 e.lt,s]] w F (fun r A o=>∃ sb sf l',r = .agg #[.int .i64 d.1.op,.int .i64 d.1.lt,sb,.int .i64 d.2.1.op,.int .i64 d.2.1.lt,sf,.bool d.2.2]∧aB sb∧aB sf∧A=aI B l'∧(∀ x∈l,x∈l')∧cw.deep sb d.1.kids∈l'∧cw.deep sf d.2.1.kids∈l'∧o=[])
set_option maxHeartbeats 4000000 in
theorem tX (a:Int) (nm:Bool) (e:Ex) (ho:e.op=4∨e.op=6∨e.op=8) (ih:∀ i,i<e.kids.length→JJ a nm (e.kids.getD i default)) (w:World) (F:Nat→Prop) (B:Bs) (l:List cw) (hB:gI B w F) (hA:(aI B l).holds w F) (s:Value) (hm:cw.deep s e.kids∈l) (d:Dv) (hd:eM a nm e=some d):ck Tryz.prog 153 [.agg #[.int .i64 a,.bool nm],.agg #[.int .i64 e.op,.int .i64 e.lt,s]] w F (fun r A o=>∃ sb sf l',r = .agg #[.int .i64 d.1.op,.int .i64 d.1.lt,sb,.int .i64 d.2.1.op,.int .i64 d.2.1.lt,sf,.bool d.2.2]∧aB sb∧aB sf∧A=aI B l'∧(∀ x∈l,x∈l')∧cw.deep sb d.1.kids∈l'∧cw.deep sf d.2.1.kids∈l'∧o=[]):=by
 refine cu Tryz.func153 rfl (aT rfl) hA ?_
 refine .rQ 0 rfl hm fun l1 ss h2=>?_
 have MM:=h2.ME
 obtain ⟨z8,ds,MS,vC⟩:=Fh hd ho
 obtain ⟨Hs,WQ⟩:=xC MS
 obtain ⟨WY,T5,h3⟩:=Fo vC
 have DW:=count_le ds
 have X2:(ds.map (·.1)).length=e.kids.length:=by simp [Hs]
 have X0:(ds.map (·.2.1)).length=e.kids.length:=by simp [Hs]
 refine .sr fun _ bl=>?_
 refine .cS (E:=144) (cs:=[.int .i64 a,.bool nm]) rfl rfl rfl trivial rfl (fun eu=>?_)
 refine .cS (E:=24) (cs:=[.int .i64 e.op,.int .i64 e.lt,s]) rfl rfl rfl trivial rfl (fun ga=>?_)
 refine .alloc qx rfl rfl trivial rfl (fun iD=>?_)
 refine .nt bl ?_
 refine .seq fun _ bg=>?_
 refine .oM (X:=Value × Value) [(2,_),(3,_),(4,_)] (fun z=>[(5,z.1),(6,z.2)]) (fun z=>[aI B l1,box eu 144 2 [.int .i64 a,.bool nm],box ga 24 3 [.int .i64 e.op,.int .i64 e.lt,s],box iD 142 7 [.int .i64 0,.int .i64 0,.slice none 0 0,.int .i64 0,.int .i64 0,.slice none 0 0,.bool false],row z.1 24 3 e.kids.length (dc (List.replicate e.kids.length e0) (List.replicate e.kids.length aW)),row z.2 24 3 e.kids.length (dc (List.replicate e.kids.length e0) (List.replicate e.kids.length aW))]) (fun z=>True) aU (fun _ hJ=>?_) (fun z hg=>?_)
 ·try (conv=>enter [2,2];simp only [cE])
  refine .held 10 mixed ?_
  refine .F 0 9 10 1 rfl (.fieldAddr bM rfl) trivial ?_
  refine .F 1 8 10 3 rfl (.aa du rfl ax rfl) trivial ?_
  refine .F 2 7 10 7 rfl (.aZ aR rfl (by exact cR.tree hB 0 rfl h2.rw)) trivial ?_
  refine .F 4 6 10 23 rfl (.fieldAddr bM rfl) trivial ?_
  refine .F 5 5 10 55 rfl (.aa du rfl ax rfl) trivial ?_
  refine .F 6 4 10 119 rfl (.aZ aR rfl (by exact cR.tree hB 0 rfl h2.rw)) trivial ?_
  refine .two 3 7 (fuel:=3) (fD:=(lb 10 127)) (fC:=(lb 10 247)) cx rfl rfl cx cx ?_ ?_
  ·refine .uP aR cC rfl rfl (by omega) (by omega) trivial rfl (fun iQ=>?_)
   refine .nil ?_
   try (conv=>enter [2,2];simp only [cE])
   refine ay.back Go.Sx.hle ?_
   refine .F 8 2 10 383 rfl (.assign rfl) trivial ?_
   refine .O 7 1 10 511 rfl ?_
   refine .uP aR cC rfl rfl (by omega) (by omega) trivial rfl (fun Fw=>?_)
   refine .nil ?_
   try (conv=>enter [2,2];simp only [cE])
   refine ay.back Go.Sx.hle ?_
   refine .F 9 0 10 1023 rfl (.assign rfl) trivial ?_
   refine .done cx ?_
   exact hJ _ _ ((iQ,Fw)) trivial (aU) (fun w hw=>by first | exact hw.dG [0,1,2,3,4,5] (by decide) qn | exact hw.dG [0,1,2,3,5,4] (by decide) qn)
  ·refine .uP aR cC rfl rfl (by omega) (by omega) trivial rfl (fun Fw=>?_)
   refine .nil ?_
   try (conv=>enter [2,2];simp only [cE])
   refine ay.back Go.Sx.hle ?_
   refine .O 3 2 10 255 rfl ?_
   refine .uP aR cC rfl rfl (by omega) (by omega) trivial rfl (fun iQ=>?_)
   refine .nil ?_
   try (conv=>enter [2,2];simp only [cE])
   refine ay.back Go.Sx.hle ?_
   refine .F 8 1 10 511 rfl (.assign rfl) trivial ?_
   refine .F 9 0 10 1023 rfl (.assign rfl) trivial ?_
   refine .done cx ?_
   exact hJ _ _ ((iQ,Fw)) trivial (aU) (fun w hw=>by first | exact hw.dG [0,1,2,3,4,5] (by decide) qn | exact hw.dG [0,1,2,3,5,4] (by decide) qn)
 ·skip
  refine .ab (bg _ ?_)
  refine .sr fun _ bW=>?_
  refine .as rfl (.nt bW ?_)
  refine .seq fun _ cr=>?_
  refine .sr fun _ cJ=>?_
  refine .v (.fieldAddr bM rfl) (.v (.aa du rfl ax rfl) ?_)
  refine .v (.aZ aR rfl (by exact cR.tree hB 0 rfl h2.rw)) ?_
  refine .mv rfl (.nt cJ (.block ?_))
  refine .bE (X:=List Value × List Value × List cw) [(2,_),(3,_),(4,_),(5,_),(6,_),(21,_),(22,_)] (fun x=>[(7,.int .i64 ((((ds.take x.1.length).filter (·.2.2)).length:Nat):Int)),(23,.int .i64 (x.1.length:Int))]) (fun x=>[aI B x.2.2,box eu 144 2 [.int .i64 a,.bool nm],box ga 24 3 [.int .i64 e.op,.int .i64 e.lt,s],box iD 142 7 [.int .i64 0,.int .i64 0,.slice none 0 0,.int .i64 0,.int .i64 0,.slice none 0 0,.bool false],row z.1 24 3 e.kids.length (dc (fR e.kids.length (ds.map (·.1)) x.1.length) (dS e.kids.length x.1)),row z.2 24 3 e.kids.length (dc (fR e.kids.length (ds.map (·.2.1)) x.2.1.length) (dS e.kids.length x.2.1))]) (fun x=>x.1.length≤e.kids.length∧x.2.1.length=x.1.length∧(∀ y∈l1,y∈x.2.2)∧kJ x.2.2 (ds.map (·.1)) x.1∧kJ x.2.2 (ds.map (·.2.1)) x.2.1) (fun x=>e.kids.length - x.1.length) (([],[],l1)) aU ?_ ?_ ?_ ?_
  ·exact ⟨Nat.zero_le _,rfl,fun y hy=>hy,kJ.nil _ _,kJ.nil _ _⟩
  ·exact aU
  ·exact fun w hw=>by obtain ⟨e1,e2⟩:=kM e.kids.length (ds.map (·.1));obtain ⟨e3,e4⟩:=kM e.kids.length (ds.map (·.2.1));simp only [List.length_nil];rw [e1,e2,e3];exact hw
  ·intro x aV _ cU
   refine .sr fun _ c7=>?_
   refine .v (.lss rfl rfl) (.nt c7 ?_)
   refine .seq fun _ dm=>?_
   refine .aA rfl (fun bx=>?_) (fun bx=>?_)
   ·have eo:x.1.length<e.kids.length:=by omega
    have sk:=h2.qd x.1.length eo
    obtain ⟨X9,X8⟩:=Im ds x.1.length (by omega)
    have hck:=DW x.1.length
    refine .skip ?_
    refine .ab (dm _ ?_)
    refine .seq fun _ dD=>?_
    refine .block ?_
    refine .sr fun _ bJ=>?_
    refine .mv rfl ?_
    refine .v (.iN aR rfl rfl (hr:=(by exact cR.tree hB 0 rfl (aV.2.2.1 _ h2.rw)))) ?_
    refine .v (.da aM rfl (by exact cR.tree hB 0 rfl (aV.2.2.1 _ h2.rw)) h2.len rfl (by omega)) ?_
    refine .alloc cC rfl rfl trivial rfl (fun tn=>?_)
    refine .as rfl ?_
    refine .ah 6 (us:=[.int .i64 (e.kids.getD x.1.length default).op,.int .i64 (e.kids.getD x.1.length default).lt,ss.getD x.1.length undef]) (cs':=[.int .i64 (e.kids.getD x.1.length default).op,.int .i64 (e.kids.getD x.1.length default).lt,ss.getD x.1.length undef]) rfl cy rfl rfl rfl rfl aJ (aT rfl) rfl trivial ?_
    refine .nt bJ ?_
    refine .sr fun _ bP=>?_
    refine .v (.ak uS rfl ax rfl rfl) (.v (.ak aM rfl ax rfl rfl) ?_)
    refine .aY 0 rfl Cy rfl (fun w Fs hw hh bI bc=>ih x.1.length eo w (Fs 0) B x.2.2 (hB.later bI bc 0) (hh.at_ 0 _ rfl) _ (aV.2.2.1 _ (h2.th _ eo)) (ds.getD x.1.length default) (WQ _ eo)) trivial rfl ?_
    rintro r A o ⟨sb,sf,l2,rfl,yn,BO,rfl,dX,BV,BU,rfl⟩
    refine .alloc qx rfl rfl trivial rfl (fun wi=>?_)
    refine .ah 7 (us:=[.int .i64 (ds.getD x.1.length default).1.op,.int .i64 (ds.getD x.1.length default).1.lt,sb,.int .i64 (ds.getD x.1.length default).2.1.op,.int .i64 (ds.getD x.1.length default).2.1.lt,sf,.bool (ds.getD x.1.length default).2.2]) (cs':=[.int .i64 (ds.getD x.1.length default).1.op,.int .i64 (ds.getD x.1.length default).1.lt,sb,.int .i64 (ds.getD x.1.length default).2.1.op,.int .i64 (ds.getD x.1.length default).2.1.lt,sf,.bool (ds.getD x.1.length default).2.2]) rfl iq rfl rfl rfl rfl aJ (aT rfl) rfl trivial ?_
    refine .nt bP ?_
    refine .seq fun _ ct=>?_
    try (conv=>enter [2,2];simp only [cE])
    refine .jG [box wi 142 7 [.int .i64 (ds.getD x.1.length default).1.op,.int .i64 (ds.getD x.1.length default).1.lt,sb,.int .i64 (ds.getD x.1.length default).2.1.op,.int .i64 (ds.getD x.1.length default).2.1.lt,sf,.bool (ds.getD x.1.length default).2.2],Hx z.1 24 3 e.kids.length,Hx z.2 24 3 e.kids.length] 12 (fun _ hw=>by have h:=HW.ma 2 rfl (HW.ma 1 rfl (hw.pk [7,4,5]));exact h) mixed ?_
    refine .FS (fun _ hw=>by have h:=HW.ma 2 rfl (HW.ma 1 rfl (hw.pk [7,4,5]));exact h) 0 11 12 1 rfl (.move rfl) trivial ?_
    refine .FS (fun _ hw=>by have h:=HW.ma 2 rfl (HW.ma 1 rfl (hw.pk [7,4,5]));exact h) 1 10 12 3 rfl (.move rfl) trivial ?_
    refine .FS (fun _ hw=>by have h:=HW.ma 2 rfl (HW.ma 1 rfl (hw.pk [7,4,5]));exact h) 2 9 12 7 rfl (.move rfl) trivial ?_
    refine .FS (fun _ hw=>by have h:=HW.ma 2 rfl (HW.ma 1 rfl (hw.pk [7,4,5]));exact h) 3 8 12 15 rfl (.move rfl) trivial ?_
    refine .FS (fun _ hw=>by have h:=HW.ma 2 rfl (HW.ma 1 rfl (hw.pk [7,4,5]));exact h) 4 7 12 31 rfl (.fieldAddr r9 rfl) trivial ?_
    refine .FS (fun _ hw=>by have h:=HW.ma 2 rfl (HW.ma 1 rfl (hw.pk [7,4,5]));exact h) 5 6 12 63 rfl (.ak aM rfl ax rfl rfl) trivial ?_
    refine .FS (fun _ hw=>by have h:=HW.ma 2 rfl (HW.ma 1 rfl (hw.pk [7,4,5]));exact h) 6 5 12 127 rfl (.fieldAddr Bu rfl) trivial ?_
    refine .FS (fun _ hw=>by have h:=HW.ma 2 rfl (HW.ma 1 rfl (hw.pk [7,4,5]));exact h) 7 4 12 255 rfl (.ak aM rfl ax rfl rfl) trivial ?_
    refine .FS (fun _ hw=>by have h:=HW.ma 2 rfl (HW.ma 1 rfl (hw.pk [7,4,5]));exact h) 8 3 12 511 rfl (.Q5 1 rfl aR rfl rfl (by decide) (by omega)) trivial ?_
    refine .O 9 2 12 1023 rfl ?_
    refine .fV 4 rfl cy rfl rfl rfl rfl (aw rfl (aw rfl (aw (aB.one yn) bY))) (by omega) (cs':=dc (fR e.kids.length (ds.map (·.1)) (x.1.length+1)) (dS e.kids.length (x.1++[sb]))) ((by have h:=j5 X2 eo sb;rw [X9] at h;exact h)) trivial ?_
    refine .nil ?_
    try (conv=>enter [2,2];simp only [cE])
    refine ay.bo (fun _ hw=>by have h:=HW.ma 2 rfl (HW.ma 1 rfl (hw.pk [7,4,5]));exact h) ?_
    refine .FS (fun _ hw=>by have h:=HW.ma 2 rfl (HW.ma 1 rfl (hw.pk [7,4,5]));exact h) 10 1 12 2047 rfl (.Q5 2 rfl aR rfl rfl (by decide) (by omega)) trivial ?_
    refine .O 11 0 12 4095 rfl ?_
    refine .fV 5 rfl cy rfl rfl rfl rfl (aw rfl (aw rfl (aw (aB.one BO) bY))) (by omega) (cs':=dc (fR e.kids.length (ds.map (·.2.1)) (x.2.1.length+1)) (dS e.kids.length (x.2.1++[sf]))) ((by have h:=j5 (ts:=x.2.1) X0 (by omega) sf;rw [aV.2.1,X8] at h;rw [aV.2.1];exact h)) trivial ?_
    refine .nil ?_
    try (conv=>enter [2,2];simp only [cE])
    refine ay.bo (fun _ hw=>by have h:=HW.ma 2 rfl (HW.ma 1 rfl (hw.pk [7,4,5]));exact h) ?_
    refine .done cx ?_
    refine .ab (ct _ ?_)
    refine .sr fun _ cK=>?_
    refine .v (.fieldAddr r8 rfl) (.v (.aa vk rfl ax rfl) (.nt cK ?_))
    refine .cond rfl (fun cB=>?_) (fun cB=>?_)
    ·try simp only [bs] at cB
     refine .region ?_
     refine .mv rfl ?_
     refine .v (.add rfl rfl (by omega)) ?_
     refine .as rfl (.nil (.ag ?_))
     refine .ab (dD _ ?_)
     refine .region ?_
     refine .v (.add rfl rfl (by omega)) ?_
     refine .mv rfl (.nil ?_)
     refine .ab (cU _ _ ((x.1++[sb],x.2.1++[sf],l2)) ⟨by simp;omega,by simp;omega,fun y hy=>dX _ (aV.2.2.1 y hy),(aV.2.2.2.1.later dX).snoc (by rw [X9];exact BV) yn,(aV.2.2.2.2.later dX).snoc (by rw [aV.2.1,X8];exact BU) BO⟩ (by simp;omega) (.cons (s9 rfl (by rw [List.length_append,List.length_singleton,xU ds x.1.length (by omega),if_pos cB];simp)) (.cons (s9 rfl (by simp)) (aU))) (fun w hw=>by have h:=hw.pk [0,1,2,3,4,5];simpa [aV.2.1] using h))
    ·try simp only [bs] at cB
     refine .skip (.ag ?_)
     refine .ab (dD _ ?_)
     refine .region ?_
     refine .v (.add rfl rfl (by omega)) ?_
     refine .mv rfl (.nil ?_)
     refine .ab (cU _ _ ((x.1++[sb],x.2.1++[sf],l2)) ⟨by simp;omega,by simp;omega,fun y hy=>dX _ (aV.2.2.1 y hy),(aV.2.2.2.1.later dX).snoc (by rw [X9];exact BV) yn,(aV.2.2.2.2.later dX).snoc (by rw [aV.2.1,X8];exact BU) BO⟩ (by simp;omega) (.cons (s9 rfl (by rw [List.length_append,List.length_singleton,xU ds x.1.length (by omega),if_neg (by rw [cB];decide)];simp)) (.cons (s9 rfl (by simp)) (aU))) (fun w hw=>by have h:=hw.pk [0,1,2,3,4,5];simpa [aV.2.1] using h))
   ·have eo:x.1.length=e.kids.length:=by omega
    refine .close' 0 4 (ds.map (·.1)) x.1 (by decide) rfl rfl X2.symm (by rw [eo];obtain ⟨e1,e2⟩:=kN X2 eo;rw [e1,e2]) (by omega) (fun k hk=>aV.2.2.2.1.d k (by omega)) (fun l4 rD DS MJ=>?_)
    refine .close' 0 5 (ds.map (·.2.1)) x.2.1 (by decide) rfl rfl X0.symm (by rw [show x.2.1.length=e.kids.length by omega];obtain ⟨e1,e2⟩:=kN X0 (show x.2.1.length=e.kids.length by omega);rw [e1,e2]) (by omega) (fun k hk=>rD _ (aV.2.2.2.2.d k (by omega))) (fun l5 ti Hn Qz=>?_)
    refine .own' [aI B l5,box eu 144 2 [.int .i64 a,.bool nm],box ga 24 3 [.int .i64 e.op,.int .i64 e.lt,s],box iD 142 7 [.int .i64 0,.int .i64 0,.slice none 0 0,.int .i64 0,.int .i64 0,.slice none 0 0,.bool false]] (fun w hw=>hw.pk [0,1,2,3]) ?_
    have hdt:ds.take x.1.length=ds:=by rw [eo,← Hs,List.take_length]
    rw [hdt]
    refine .exit (.ai (.ai (.ar ?_)))
    refine .ab (cr _ ?_)
    refine .seq fun _ cW=>?_
    refine .oM (X:=Value × Value × List cw × Nat) [(3,_),(4,_),(7,_)] (fun z=>[(11,.pointer (some ⟨z.2.2.2,0,none⟩))]) (fun z=>[aI B z.2.2.1,box eu 144 2 [.int .i64 a,.bool nm],box ga 24 3 [.int .i64 e.op,.int .i64 e.lt,s],box iD 142 7 [.int .i64 0,.int .i64 0,.slice none 0 0,.int .i64 0,.int .i64 0,.slice none 0 0,.bool false],box z.2.2.2 142 7 [.int .i64 d.1.op,.int .i64 d.1.lt,z.1,.int .i64 d.2.1.op,.int .i64 d.2.1.lt,z.2.1,.bool false]]) (fun z=>aB z.1∧aB z.2.1∧(∀ y∈l5,y∈z.2.2.1)∧cw.deep z.1 d.1.kids∈z.2.2.1∧cw.deep z.2.1 d.2.1.kids∈z.2.2.1) aU (fun _ hJ=>?_) (fun z hg=>?_)
    ·try (conv=>enter [2,2];simp only [cE])
     refine .jG _ 10 (fun _ hw=>hw.pk [2]) mixed ?_
     refine .FS (fun _ hw=>hw.pk [2]) 0 10 11 1 rfl (.fieldAddr cP rfl) trivial ?_
     refine .FS (fun _ hw=>hw.pk [2]) 1 9 11 3 rfl (.aa cQ rfl ax rfl) trivial ?_
     refine .FS (fun _ hw=>hw.pk [2]) 2 8 11 7 rfl (.move rfl) trivial ?_
     refine .FS (fun _ hw=>hw.pk [2]) 4 7 11 23 rfl (.fieldAddr cP rfl) trivial ?_
     refine .FS (fun _ hw=>hw.pk [2]) 5 6 11 55 rfl (.aa cQ rfl ax rfl) trivial ?_
     refine .FS (fun _ hw=>hw.pk [2]) 6 5 11 119 rfl (.move rfl) trivial ?_
     refine .two 3 9 (fuel:=4) (fD:=(lb 11 127)) (fC:=(lb 11 631)) cx rfl rfl cx cx ?_ ?_
     ·refine .aY 0 rfl nZ rfl (fun w Fs hw hh bI bc=>ki w (Fs 0) B l5 (hB.later bI bc 0) (hh.at_ 0 _ rfl) e.op _ _ (ti _ DS) d.1 WY) trivial rfl ?_
      rintro r A o ⟨Hj,l6,rfl,D6,rfl,yd,Mv,rfl⟩
      refine .nil ?_
      try (conv=>enter [2,2];simp only [cE])
      refine ay.bo (fun _ hw=>hw.pk [2]) ?_
      refine .two 7 9 (fuel:=3) (fD:=(lb 11 255)) (fC:=(lb 11 639)) cx rfl rfl cx cx ?_ ?_
      ·refine .aY 0 rfl nZ rfl (fun w Fs hw hh bI bc=>ki w (Fs 0) B l6 (hB.later bI bc 0) (hh.at_ 0 _ rfl) e.op _ _ (yd _ Hn) d.2.1 T5) trivial rfl ?_
       rintro r A o ⟨Fv,l7,rfl,Ca,rfl,Fy,MN,rfl⟩
       refine .nil ?_
       try (conv=>enter [2,2];simp only [cE])
       refine ay.bo (fun _ hw=>hw.pk [2]) ?_
       refine .FS (fun _ hw=>hw.pk [2]) 8 2 11 511 rfl (.build (parts:=[(0,.tmp 49),(1,.tmp 53)]) (cs:=#[.int .i64 d.1.op,.int .i64 d.1.lt,Hj,.int .i64 d.2.1.op,.int .i64 d.2.1.lt,Fv,.bool false]) rfl (by obtain ⟨_,_,_,rfl⟩:=D6;obtain ⟨_,_,_,rfl⟩:=Ca;kernel_rfl)) trivial ?_
       refine .O 9 1 11 1023 rfl ?_
       refine .alloc qx rfl rfl trivial rfl (fun ja=>?_)
       refine .nil ?_
       try (conv=>enter [2,2];simp only [cE])
       refine ay.bo (fun _ hw=>hw.pk [2]) ?_
       refine .O 10 0 11 2047 rfl ?_
       refine .ah 4 (us:=[.int .i64 d.1.op,.int .i64 d.1.lt,Hj,.int .i64 d.2.1.op,.int .i64 d.2.1.lt,Fv,.bool false]) (cs':=[.int .i64 d.1.op,.int .i64 d.1.lt,Hj,.int .i64 d.2.1.op,.int .i64 d.2.1.lt,Fv,.bool false]) rfl iq rfl rfl rfl rfl aJ (aT rfl) rfl trivial ?_
       refine .nil ?_
       try (conv=>enter [2,2];simp only [cE])
       refine ay.ir 11 cx rfl cx ?_
       refine .nil ?_
       refine .fu ?_
       exact hJ _ _ ((Hj,Fv,l7,ja)) ⟨D6,Ca,fun y hy=>Fy _ (yd _ hy),Fy _ Mv,MN⟩ (aU) (fun w hw=>by first | exact hw.dG [0,1,2,3,4] (by decide) qn)
      ·refine .alloc qx rfl rfl trivial rfl (fun ja=>?_)
       refine .nil ?_
       try (conv=>enter [2,2];simp only [cE])
       refine ay.bo (fun _ hw=>hw.pk [2]) ?_
       refine .O 7 2 11 767 rfl ?_
       refine .aY 0 rfl nZ rfl (fun w Fs hw hh bI bc=>ki w (Fs 0) B l6 (hB.later bI bc 0) (hh.at_ 0 _ rfl) e.op _ _ (yd _ Hn) d.2.1 T5) trivial rfl ?_
       rintro r A o ⟨Fv,l7,rfl,Ca,rfl,Fy,MN,rfl⟩
       refine .nil ?_
       try (conv=>enter [2,2];simp only [cE])
       refine ay.bo (fun _ hw=>hw.pk [2]) ?_
       refine .FS (fun _ hw=>hw.pk [2]) 8 1 11 1023 rfl (.build (parts:=[(0,.tmp 49),(1,.tmp 53)]) (cs:=#[.int .i64 d.1.op,.int .i64 d.1.lt,Hj,.int .i64 d.2.1.op,.int .i64 d.2.1.lt,Fv,.bool false]) rfl (by obtain ⟨_,_,_,rfl⟩:=D6;obtain ⟨_,_,_,rfl⟩:=Ca;kernel_rfl)) trivial ?_
       refine .O 10 0 11 2047 rfl ?_
       refine .ah 4 (us:=[.int .i64 d.1.op,.int .i64 d.1.lt,Hj,.int .i64 d.2.1.op,.int .i64 d.2.1.lt,Fv,.bool false]) (cs':=[.int .i64 d.1.op,.int .i64 d.1.lt,Hj,.int .i64 d.2.1.op,.int .i64 d.2.1.lt,Fv,.bool false]) rfl iq rfl rfl rfl rfl aJ (aT rfl) rfl trivial ?_
       refine .nil ?_
       try (conv=>enter [2,2];simp only [cE])
       refine ay.ir 11 cx rfl cx ?_
       refine .nil ?_
       refine .fu ?_
       exact hJ _ _ ((Hj,Fv,l7,ja)) ⟨D6,Ca,fun y hy=>Fy _ (yd _ hy),Fy _ Mv,MN⟩ (aU) (fun w hw=>by first | exact hw.dG [0,1,2,3,4] (by decide) qn)
     ·refine .alloc qx rfl rfl trivial rfl (fun ja=>?_)
      refine .nil ?_
      try (conv=>enter [2,2];simp only [cE])
      refine ay.bo (fun _ hw=>hw.pk [2]) ?_
      refine .O 3 3 11 639 rfl ?_
      refine .aY 0 rfl nZ rfl (fun w Fs hw hh bI bc=>ki w (Fs 0) B l5 (hB.later bI bc 0) (hh.at_ 0 _ rfl) e.op _ _ (ti _ DS) d.1 WY) trivial rfl ?_
      rintro r A o ⟨Hj,l6,rfl,D6,rfl,yd,Mv,rfl⟩
      refine .nil ?_
      try (conv=>enter [2,2];simp only [cE])
      refine ay.bo (fun _ hw=>hw.pk [2]) ?_
      refine .O 7 2 11 767 rfl ?_
      refine .aY 0 rfl nZ rfl (fun w Fs hw hh bI bc=>ki w (Fs 0) B l6 (hB.later bI bc 0) (hh.at_ 0 _ rfl) e.op _ _ (yd _ Hn) d.2.1 T5) trivial rfl ?_
      rintro r A o ⟨Fv,l7,rfl,Ca,rfl,Fy,MN,rfl⟩
      refine .nil ?_
      try (conv=>enter [2,2];simp only [cE])
      refine ay.bo (fun _ hw=>hw.pk [2]) ?_
      refine .FS (fun _ hw=>hw.pk [2]) 8 1 11 1023 rfl (.build (parts:=[(0,.tmp 49),(1,.tmp 53)]) (cs:=#[.int .i64 d.1.op,.int .i64 d.1.lt,Hj,.int .i64 d.2.1.op,.int .i64 d.2.1.lt,Fv,.bool false]) rfl (by obtain ⟨_,_,_,rfl⟩:=D6;obtain ⟨_,_,_,rfl⟩:=Ca;kernel_rfl)) trivial ?_
      refine .O 10 0 11 2047 rfl ?_
      refine .ah 4 (us:=[.int .i64 d.1.op,.int .i64 d.1.lt,Hj,.int .i64 d.2.1.op,.int .i64 d.2.1.lt,Fv,.bool false]) (cs':=[.int .i64 d.1.op,.int .i64 d.1.lt,Hj,.int .i64 d.2.1.op,.int .i64 d.2.1.lt,Fv,.bool false]) rfl iq rfl rfl rfl rfl aJ (aT rfl) rfl trivial ?_
      refine .nil ?_
      try (conv=>enter [2,2];simp only [cE])
      refine ay.ir 11 cx rfl cx ?_
      refine .nil ?_
      refine .fu ?_
      exact hJ _ _ ((Hj,Fv,l7,ja)) ⟨D6,Ca,fun y hy=>Fy _ (yd _ hy),Fy _ Mv,MN⟩ (aU) (fun w hw=>by first | exact hw.dG [0,1,2,3,4] (by decide) qn)
    ·have Hi:=hg.1
     have Hh:=hg.2.1
     refine .ab (cW _ ?_)
     refine .seq fun _ c8=>?_
     refine .sr fun _ dw=>?_
     refine .v (.fieldAddr cP rfl) (.v (.aa cQ rfl ax rfl) (.nt dw (.block ?_)))
     refine .sr fun _ dE=>?_
     refine .v (.eql rfl rfl) (.as rfl (.nt dE ?_))
     refine .aA rfl (fun cZ=>?_) (fun cZ=>?_)
     ·refine .region ?_
      refine .mv rfl (.v (.gtr rfl rfl) (.v (.fieldAddr r8 rfl) ?_))
      refine .ah 4 (us:=[.bool (decide ((0:Int)<((ds.filter (·.2.2)).length:Nat)))]) (cs':=[.int .i64 d.1.op,.int .i64 d.1.lt,z.1,.int .i64 d.2.1.op,.int .i64 d.2.1.lt,z.2.1,.bool (decide ((0:Int)<((ds.filter (·.2.2)).length:Nat)))]) rfl IW rfl rfl rfl rfl aJ (aT rfl) rfl trivial ?_
      refine .nil (.ag ?_)
      refine .ab (c8 _ ?_)
      refine .sr fun _ dR=>?_
      refine .v (.ak jH rfl ax rfl rfl) ?_
      refine .ah 3 (us:=[.int .i64 d.1.op,.int .i64 d.1.lt,z.1,.int .i64 d.2.1.op,.int .i64 d.2.1.lt,z.2.1,.bool (decide ((0:Int)<((ds.filter (·.2.2)).length:Nat)))]) (cs':=[.int .i64 d.1.op,.int .i64 d.1.lt,z.1,.int .i64 d.2.1.op,.int .i64 d.2.1.lt,z.2.1,.bool (decide ((0:Int)<((ds.filter (·.2.2)).length:Nat)))]) rfl iq rfl rfl rfl rfl aJ (aT rfl) rfl trivial ?_
      refine .nt dR (.ret ?_)
      refine .cO [.cell 4 142] rfl (.cons (.cell jH rfl ax rfl rfl) (.nil)) (fun w hw=>⟨_,_,_,?_,rfl,.of (hw.pk [0])⟩)
      rw [show ((decide ((0:Int)<((ds.filter (·.2.2)).length:Nat))):Bool)=d.2.2 from by rw [h3];unfold TG;rw [if_pos cZ];exact decide_eq_decide.2 (by omega)]
      exact ⟨z.1,z.2.1,z.2.2.1,rfl,hg.1,hg.2.1,rfl,fun y hy=>hg.2.2.1 _ (ti _ (rD _ (aV.2.2.1 _ (h2.sub y hy)))),hg.2.2.2.1,hg.2.2.2.2,rfl⟩
     ·refine .sr fun _ dO=>?_
      refine .v (.eql rfl rfl) (.as rfl (.nt dO ?_))
      refine .aA rfl (fun iz=>?_) (fun iz=>?_)
      ·refine .region ?_
       refine .mv rfl (.v (.fieldAddr bM rfl) (.v (.aa du rfl ax rfl) ?_))
       refine .v (.aZ aR rfl (by exact cR.tree hB 0 rfl (hg.2.2.1 _ (ti _ (rD _ (aV.2.2.1 _ h2.rw)))))) ?_
       refine .v (.eql rfl rfl) (.v (.fieldAddr r8 rfl) ?_)
       refine .ah 4 (us:=[.bool (decide ((((ds.filter (·.2.2)).length:Nat):Int)=(e.kids.length:Int)))]) (cs':=[.int .i64 d.1.op,.int .i64 d.1.lt,z.1,.int .i64 d.2.1.op,.int .i64 d.2.1.lt,z.2.1,.bool (decide ((((ds.filter (·.2.2)).length:Nat):Int)=(e.kids.length:Int)))]) rfl IW rfl rfl rfl rfl aJ (aT rfl) rfl trivial ?_
       refine .nil (.ag ?_)
       refine .ab (c8 _ ?_)
       refine .sr fun _ eJ=>?_
       refine .v (.ak jH rfl ax rfl rfl) ?_
       refine .ah 3 (us:=[.int .i64 d.1.op,.int .i64 d.1.lt,z.1,.int .i64 d.2.1.op,.int .i64 d.2.1.lt,z.2.1,.bool (decide ((((ds.filter (·.2.2)).length:Nat):Int)=(e.kids.length:Int)))]) (cs':=[.int .i64 d.1.op,.int .i64 d.1.lt,z.1,.int .i64 d.2.1.op,.int .i64 d.2.1.lt,z.2.1,.bool (decide ((((ds.filter (·.2.2)).length:Nat):Int)=(e.kids.length:Int)))]) rfl iq rfl rfl rfl rfl aJ (aT rfl) rfl trivial ?_
       refine .nt eJ (.ret ?_)
       refine .cO [.cell 4 142] rfl (.cons (.cell jH rfl ax rfl rfl) (.nil)) (fun w hw=>⟨_,_,_,?_,rfl,.of (hw.pk [0])⟩)
       rw [show ((decide ((((ds.filter (·.2.2)).length:Nat):Int)=(e.kids.length:Int))):Bool)=d.2.2 from by rw [h3];unfold TG;rw [if_neg cZ,if_pos iz];exact decide_eq_decide.2 (by omega)]
       exact ⟨z.1,z.2.1,z.2.2.1,rfl,hg.1,hg.2.1,rfl,fun y hy=>hg.2.2.1 _ (ti _ (rD _ (aV.2.2.1 _ (h2.sub y hy)))),hg.2.2.2.1,hg.2.2.2.2,rfl⟩
      ·refine .sr fun _ eY=>?_
       refine .v (.eql rfl rfl) (.as rfl (.nt eY ?_))
       refine .aA rfl (fun gn=>?_) (fun gn=>?_)
       ·refine .region ?_
        refine .mv rfl (.v (.eql rfl rfl) (.v (.fieldAddr r8 rfl) ?_))
        refine .ah 4 (us:=[.bool (decide ((((ds.filter (·.2.2)).length:Nat):Int)=0))]) (cs':=[.int .i64 d.1.op,.int .i64 d.1.lt,z.1,.int .i64 d.2.1.op,.int .i64 d.2.1.lt,z.2.1,.bool (decide ((((ds.filter (·.2.2)).length:Nat):Int)=0))]) rfl IW rfl rfl rfl rfl aJ (aT rfl) rfl trivial ?_
        refine .nil (.ag ?_)
        refine .ab (c8 _ ?_)
        refine .sr fun _ eI=>?_
        refine .v (.ak jH rfl ax rfl rfl) ?_
        refine .ah 3 (us:=[.int .i64 d.1.op,.int .i64 d.1.lt,z.1,.int .i64 d.2.1.op,.int .i64 d.2.1.lt,z.2.1,.bool (decide ((((ds.filter (·.2.2)).length:Nat):Int)=0))]) (cs':=[.int .i64 d.1.op,.int .i64 d.1.lt,z.1,.int .i64 d.2.1.op,.int .i64 d.2.1.lt,z.2.1,.bool (decide ((((ds.filter (·.2.2)).length:Nat):Int)=0))]) rfl iq rfl rfl rfl rfl aJ (aT rfl) rfl trivial ?_
        refine .nt eI (.ret ?_)
        refine .cO [.cell 4 142] rfl (.cons (.cell jH rfl ax rfl rfl) (.nil)) (fun w hw=>⟨_,_,_,?_,rfl,.of (hw.pk [0])⟩)
        rw [show ((decide ((((ds.filter (·.2.2)).length:Nat):Int)=0)):Bool)=d.2.2 from by rw [h3];unfold TG;rw [if_neg cZ,if_neg iz,if_pos gn];exact decide_eq_decide.2 (by omega)]
        exact ⟨z.1,z.2.1,z.2.2.1,rfl,hg.1,hg.2.1,rfl,fun y hy=>hg.2.2.1 _ (ti _ (rD _ (aV.2.2.1 _ (h2.sub y hy)))),hg.2.2.2.1,hg.2.2.2.2,rfl⟩
       ·refine .skip (.ag ?_)
        refine .ab (c8 _ ?_)
        refine .sr fun _ fH=>?_
        refine .v (.ak jH rfl ax rfl rfl) ?_
        refine .ah 3 (us:=[.int .i64 d.1.op,.int .i64 d.1.lt,z.1,.int .i64 d.2.1.op,.int .i64 d.2.1.lt,z.2.1,.bool false]) (cs':=[.int .i64 d.1.op,.int .i64 d.1.lt,z.1,.int .i64 d.2.1.op,.int .i64 d.2.1.lt,z.2.1,.bool false]) rfl iq rfl rfl rfl rfl aJ (aT rfl) rfl trivial ?_
        refine .nt fH (.ret ?_)
        refine .cO [.cell 4 142] rfl (.cons (.cell jH rfl ax rfl rfl) (.nil)) (fun w hw=>⟨_,_,_,?_,rfl,.of (hw.pk [0])⟩)
        rw [show (false:Bool)=d.2.2 from by rw [h3];unfold TG;rw [if_neg cZ,if_neg iz,if_neg gn]]
        exact ⟨z.1,z.2.1,z.2.2.1,rfl,hg.1,hg.2.1,rfl,fun y hy=>hg.2.2.1 _ (ti _ (rD _ (aV.2.2.1 _ (h2.sub y hy)))),hg.2.2.2.1,hg.2.2.2.2,rfl⟩
end Go.Proofs.YtbibnpdnmmgacaaGreatDoor
